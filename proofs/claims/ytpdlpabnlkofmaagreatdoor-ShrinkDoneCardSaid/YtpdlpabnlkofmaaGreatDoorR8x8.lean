/-
  Part 8.
-/
import Derived.Test.YtpdlpabnlkofmaaGreatDoorR8x7
set_option maxHeartbeats 8000000
set_option linter.all false
set_option maxRecDepth 100000
open Go.Fw.Flat renaming val->ia,enc->j0,sz->mI
open ByteArray renaming mk->kh
open List renaming getElem?_eq_some_iff->kp,mem_of_getElem?->kE,take_of_length_le->kO,length_append->la,length_take->l0,length_singleton->mv,mem_map->oj,append_nil->pL,length_drop->qb,nil_append->s4,eraseIdx_eq_take_drop_succ->wi,drop_eq_nil_iff->Cx,drop_of_length_le->D7,mem_of_mem_eraseIdx->MZ
open Nat renaming zero_le->l1,le_refl->o6,zero_add->u1,le_trans->wS,le_of_eq->zW,not_lt_zero->M9
open Go.Instr renaming build->l4,sliceAt->n4,box->zx,field->aaw
open Go.Fw.Deep renaming dr->mh
open Int renaming toNat_natCast->qa
open Decidable renaming not_not->vh
open Go.Value renaming slice->yo,tuple->Bv
namespace Go.Proofs.YtpdlpabnlkofmaaGreatDoor
open Go.Fw
def ahj(s:hG):pr hH (aaw 114 (ia s) 0)=some (hZ s.bZ):=by
 obtain⟨a,b,c,d,e⟩:=s
 kernel_rfl
def C101(K:hM)(p:cE)(pv:bP)(room c:Int)(lv:Value)(l:List aS)(w:World)(G:∀w',Ext w w'->K w')(hp:Io K pv p)(hz:PZ p)(hl:F8 K lv l)(BC:l.length<=1000)(Ka:∀q∈l,q.cut.length<=1000) :
  CR 101 [ia pv,hZ room,hZ c,lv] w (λv w'=>(eO p room c≠0/\v=.tuple #[.pointer none,.slice none 0 0,hZ (eO p room c)]/\Ext w w')\/
  (eO p room c=0/\∃(b:Nat) (X:hM) (ov:Value),v=.tuple #[.pointer (some ⟨b,0,none⟩),ov,hZ (tg c (gY p room) [] l).2.2]/\wz p 1000 (tg c (gY p room) [] l).1/\(tg c (gY p room) [] l).1.mem.dU=eW p/\lh (sep (gp (λw=>K w/\X w) b (tg c (gY p room) [] l).1) (sep (bH ov (tg c (gY p room) [] l).2.1) (eD X))) w w')):=by
 have u:=St.start w;refine fg Tryz.func101 ?_;refine cI (x:=pv) u (λb4 _ u=>aD er u.At (dO aq5 (C12 K p pv room _ (λ_ e=>G _ (u.aG.then e)) hp hz) ?_));rintro v21 w2 (⟨h1,rfl,W⟩|⟨O,h1,rfl,W⟩|⟨O,hr,b,X,rfl,cL⟩)
 .have u:=u.ext W;refine aO rfl (aO rfl (bV (aC (λ_=>?_) λh=>absurd h1 h)));have e:eO p room c=fm p:=by unfold eO;rw[ew h1]
  rw[e];exact .inl ⟨h1,rfl,u.drop.aG⟩
 .have u:=u.ext W;refine aO rfl (aO rfl (bV (aC (λ_=>?_) λh=>absurd (by decide:(1:Int)≠0) h)));have e:eO p room c=1:=by unfold eO;rw[ej (by rw[O];decide),ew h1]
  rw[e];exact .inl ⟨ee,rfl,u.drop.aG⟩
 have zX:=vK O;have u:=(u.made cL).split;refine aO rfl (aO rfl (bV (aC (λh=>absurd rfl h) λ_=>?_)));refine⟨λjv w'=>jv=.bool (decide (c<0\/8<c))/\w'=w2,?_,?_⟩
 .exact aR (aC (λh=>⟨vb (ez (.inl h)).symm,rfl⟩) λ_=>cO ⟨vb (ga.2 cK),rfl⟩)
 rintro _ _ ⟨rfl,rfl⟩ _;refine aC (λh2=>?_) (λh2=>?_)
 .have e:eO p room c=1:=by unfold eO;rw[ej (by rw[O];decide),ej cK,ew h2]
  rw[e];exact .inl ⟨ee,rfl,u.drop.drop.drop.aG⟩
 have VI:eO p room c=0:=by unfold eO;rw[ej (by rw[O];decide),ej cK,ej h2]
 obtain⟨ts,Z⟩:=hl;have hn:ts.length=l.length:=(Z _ (G _ u.aG)).2.1
 have J:∀(k:Nat) (m:gN) (ov:Value) (out:List cB) (f:Int) (w':World),k<=l.length->wz p k m->m.mem.dU=eW p->(tg c (gY p room) [] l)=(m,out,f)->St w aZ [bH ov out,gp (λw=>K w/\X w) b m,eD X,bY b4 (j0 pv)] w'->
   (eO p room c≠0/\Bv #[.pointer (some ⟨b,0,none⟩),ov,hZ f]=.tuple #[.pointer none,.slice none 0 0,hZ (eO p room c)]/\Ext w w')\/
   (eO p room c=0/\∃(b':Nat) (X:hM) (U:Value),Bv #[.pointer (some ⟨b,0,none⟩),ov,hZ f]=.tuple #[.pointer (some ⟨b',0,none⟩),U,hZ (tg c (gY p room) [] l).2.2]/\wz p 1000 (tg c (gY p room) [] l).1/\(tg c (gY p room) [] l).1.mem.dU=eW p/\lh (sep (gp (λw=>K w/\X w) b' (tg c (gY p room) [] l).1) (sep (bH U (tg c (gY p room) [] l).2.1) (eD X))) w w'):=by
  intro k m ov out f w' hk B hf W u;rw[W];have u:=St.join u.p3.drop.p2.p1;exact .inr ⟨VI,b,X,ov,rfl,B.mono cK,hf,(St.join u.p1).fresh⟩
 refine aK gg (Z _ (G _ u.aG)).1 ?_
 refine⟨λmm o y w'=>∃(k:Nat) (m:gN) (out:List cB),y=hZ (k:Int)/\mm=ts.length-k/\k<=l.length/\out.length<=k/\wz p k m/\m.mem.dU=eW p/\(tg c (gY p room) [] l)=tg c m out (l.drop k)/\St w aZ [bH o out,gp (λw=>K w/\X w) b m,eD X,bY b4 (j0 pv)] w',
  ⟨_,0,gY p room,[],rfl,rfl,l1 _,o6 _,wz.new hz zX hr,rfl,rfl,u.eL⟩,?_⟩
 rintro mm ov _ w4 ⟨k,m,out,rfl,rfl,hk,ho,B,Df,E,u⟩ _;refine aR (aC (λc1=>?_) λc1=>?_);rotate_left
 .rw[D7 cK]at E;exact J k m ov out 0 w4 hk B Df E u
 obtain⟨q,hq⟩:=gx l (i:=k) cK;obtain⟨tq,Ts⟩:=gx ts (i:=((k:Nat):Int).toNat) cK;have V:∀w',K w'->mh w' tq q:=λw' h=>(Z w' h).2.2 k tq q Ts hq;obtain⟨Y,rfl,_⟩:=V _ (G _ u.aG)
 have hgc:∀w',K w'->dC (λ_=>True) w' (ia Y) q.cut:=λw' h=>by
  obtain⟨gc2,e,h3⟩:=V w' h;cases e
  exact DL.flat h3
 have hqc:=Ka q (kE hq)
 have PK:l.drop k=q::l.drop (k+1):=by
  obtain⟨h1,h2⟩:=kp.1 hq;rw[List.drop_eq_getElem_cons h1,h2]
 rw[PK]at E;have rp:=B.mb.mono (b:=1000000) cK;have C1:=B.cr;refine aQ gg (Z _ (G _ u.aG)).1 cK Ts (λq37 h37=>aD kF h37 (aM u BQ λb15 _ u=>aI (x:=(⟨q.kind,q.t,q.i,Y⟩:aJ)) u kF rfl rfl λ_ u=>?_));refine⟨λjv w'=>jv=.bool (decide (q.kind=3/\c<=m.bZ))/\St w aZ [bY b15 (j0 (⟨q.kind,q.t,q.i,Y⟩:aJ)),bH ov out,gp (λw=>K w/\X w) b m,eD X,bY b4 (j0 pv)] w',?_,?_⟩
 .exact aA mW (aB (v:=hZ q.kind) bM u.hb rfl (aH (aC (λI=>aV ajE u (C68 (λw=>K w/\X w) b m _ u.p2.has (λ_ e=>⟨G _ (u.aG.then e),(u.ext e).p3.eD⟩) B.ok) λ_ _ u=>pop (ahj (iU m)) (cR ⟨vb (ga.2 ⟨λh=>⟨I,h⟩,λh=>h.2⟩),u⟩)) λI=>⟨vb (fN λh=>I h.1).symm,u⟩)))
 rintro _ w8 ⟨rfl,u⟩ _;refine aC (λI=>?_) (λI=>?_)
 .rw[tg,ew I]at E;exact J k m ov out 14 w8 hk B Df E u.drop
 rw[tg,ej I]at E;refine aD (x:=(⟨q.kind,q.t,q.i,Y⟩:aJ)) kF u.At (bF aq3 u.p2 (H':=λ_=>gp (λw=>K w/\X w) b (n8 m q).1) (Φ:=λv _=>v=.tuple #[ia (n8 m q).2.1,hZ (n8 m q).2.2]) (λF2 ef dW=>?_) ?_)
 .exact C24 (λw=>K w/\X w) b m q Y F2 _ ef (λw' hc=>⟨G _ (dW w' hc).aG,(dW w' hc).p2.eD⟩) B.ok (B.pr▸zX) rp cK (λw' hc=>hgc _ (G _ (dW w' hc).aG)) hqc
 rintro _ _ rfl u;refine aO rfl (aO rfl (aM u mu λb16 _ u=>aI (x:=(n8 m q).2.1) u fj rfl rfl λw11 u=>bV ?_));have Gb:=B.step (q:=q) zX;have M:=(Q0 B.ok q).trans Df;refine aC (λc3=>?_) (λc3=>?_)
 .rw[ew c3]at E;exact J (k+1) _ ov out _ w11 cK Gb M E u.drop.p1.drop.p1
 rw[ej c3]at E;refine aD (x:=(n8 m q).2.1) fj u.At (bD [(n8 m q).2.1] u OH rfl rfl (dL rfl) λs64 _ u=>?_);have alv:=u.dX;refine bJ u.p4 OH alv (by rw[mv];omega) ee (λs65 _ u=>aN cK ?_);refine⟨ts.length-(k+1),cK,k+1,_,out++[(n8 m q).2.1],rfl,rfl,cK,by rw[la,mv];omega,Gb,M,E,?_⟩;exact u.p1.drop.p1.drop.p2.drop
def C40(K:hM)(p:cE)(pv:bP)(room c:Int)(lv:Value)(l:List aS)(w:World)(E:∀w',Ext w w'->K w')(J:Io K pv p)(hz:PZ p)(M:F8 K lv l)(Y:l.length<=1000)(O:∀q∈l,q.cut.length<=1000) :
  CR 40 [ia pv,hZ room,hZ c,lv] w (λv w'=>∃(ev:aJ) (ov:Value),v=.tuple #[ia ev,ov,hZ (px p room c l).2.2.1,hZ (px p room c l).2.2.2]/\lh (sep (eD λw=>mh w ev (px p room c l).1) (bH ov (px p room c l).2.1)) w w'):=by
 have u:=St.start w;refine fg Tryz.func40 ?_;refine cI (x:=pv) u (λb4 _ u=>aM u gQ λb8 _ u=>have u:=u.enc (cs':=j0 (⟨0,0,0,bX⟩:aJ)) rfl;aD er u.p1.At (dO asu (C101 K p pv room c lv l _ (λ_ e=>E _ (u.aG.then e)) J hz M Y O) ?_));rintro U w3 (⟨h1,rfl,V⟩|⟨h1,b,X,ov,rfl,I,W,G⟩)
 .have u:=u.ext V;refine aO rfl (aO rfl (aO rfl (bV (aC (λ_=>?_) λh=>absurd h1 h))));refine pop qY (aK OH (dC.nil (α:=cB) (λ_=>True) w) (aI (x:=(⟨0,0,0,bX⟩:aJ)) u eX rfl rfl λZ u=>aD (x:=(⟨0,0,0,bX⟩:aJ)) eX u.At ?_));rw[J9 h1];exact⟨_,_,rfl,(St.join ((u.drop.drop.eL (α:=cB)).fu (Φ:=λw=>mh w (⟨0,0,0,bX⟩:aJ) zE) wg)).fresh⟩
 have u:=(((u.made G).split).p1.split);refine aO rfl (aO rfl (aO rfl (bV (aC (λh2=>?_) λh2=>?_))))
 .refine pop qY (aK OH u.dX (aI (x:=(⟨0,0,0,bX⟩:aJ)) u.p3 eX rfl rfl λZ u=>aD (x:=(⟨0,0,0,bX⟩:aJ)) eX u.At ?_));rw[alr h1 h2];exact⟨_,_,rfl,(St.join ((u.drop.drop.drop.drop.drop.eL (α:=cB)).fu (Φ:=λw=>mh w (⟨0,0,0,bX⟩:aJ) zE) wg)).fresh⟩
 have h3:(tg c (gY p room) [] l).2.2=0:=vh.1 h2;refine aD er u.p4.At (dO asv (C102 (λw=>K w/\X w) b (tg c (gY p room) [] l).1 pv _ u.p2.has (λ_ e=>⟨E _ (u.aG.then e),(u.ext e).p1.eD⟩) I.ok (W.trans (by rw[I.pr])) (by rw[I.pr];exact J.pr _ (E _ u.aG))) ?_);rintro _ _ ⟨B,rfl,G⟩;have u:=u.made G;refine aI (x:=B) u.p4 eX rfl rfl (λ_ u=>aD (x:=B) eX u.At ?_);rw[aa7 h1 h3];exact⟨B,ov,rfl,(St.join u.drop.p2.drop.p2.drop.p2.drop).fresh⟩
variable (w:World) (K:Value->hM)
def S38(p0 nf V I:Value):Prop:=
 qZ hH (zx 27 p0) w λp4 a=>aL 63 a λb c=>lA 27 p4 c λd=>cF 13 [d,nf] c λe f=>xT e 0 λg=>xT e 1 λh=>bB .neq 31 h (i 0) λj=>cV j (eP hH (l4 63 [].toArray) λk=>
 sA 63 b k f λl=>lA 63 b l λr=>K (.tuple #[r,(.slice none 0 0),h,(i 0)]) l) (eT (λK1=>bB .lss 3 V (i 0) λn=>cV n (K1 tt f) (bB .gtr 3 V (i 8) λo=>
 K1 o f)) (λp q=>∀_:Env,
 cV p (eP hH (l4 63 [].toArray) λs=>sA 63 b s q λt=>lA 63 b t λGj=>K (.tuple #[Gj,(.slice none 0 0),(i 1),(i 0)]) t) (bS 72 0 [] q λu v=>oq (λK2 E B x=>∀_:Env,
 lN 39 I λy=>bA .lss 3 B y λz=>cV z (eT (λY=>iA 39 I B λaa=>fA 50 aa 0 λab=>lA 3 ab x λac=>bB .eql 3 ac (i 3) λad=>cV ad (nC g λae=>fA 44 ae 2 λaf=>
 lA 3 af x λag=>bA .geq 3 ag V λah=>Y ah x) (Y ff x)) (λai O=>∀_:Env,
 cV ai (eP hH (l4 63 [].toArray) λak=>sA 63 b ak O λal=>lA 63 b al λKG=>K (.tuple #[KG,(.slice none 0 0),(i 14),B]) al) (iA 39 I B λam=>
 lA 50 am O λan=>cF 25 [g,an] O λZ ap=>xT Z 0 λaq=>xT Z 1 λar=>aL 56 ap λG J=>sA 56 G aq J λW=>bB .neq 31 ar (i 0) λav=>cV av (eP hH (l4 63 [].toArray) λaw=>
 sA 63 b aw W λax=>lA 63 b ax λM=>K (.tuple #[M,(.slice none 0 0),ar,B]) ax) (lA 56 G W λay=>bS 72 1 [(0,ay)] W λaz a0=>aP 72 E az a0 λa1 a2=>
 bB .add 3 B (i 1) λa3=>K2 a1 a3 a2)))) (cF 97 [g] x λa4 a5=>sA 63 b a4 a5 λa6=>lA 63 b a6 λU=>K (.tuple #[U,E,(i 0),(i 0)]) a6)) λK2=>K2 u (i 0) v)))
theorem alw(p0 B E u:Value)(h:S38 w K p0 B E u):CR 38 [p0,B,E,u] w K:=
 qm 79 (λ_=>.nil) 3840 [.cell 8 63,.tmp 9,.tmp 10,.tmp 11] Tryz.func38 h
def P97:dI:=λi=>match i with
 | 2=>(.op 0 [] (.op 1 [] (.op 3 [] (.op 4 [] (.op 5 [] (.op 6 [] (.op 7 [] (.op 8 [] (.op 9 [] (.op 10 [] (.op 11 [] (.op 12 [] (.op 13 [] (.alt 2 [1,6,9,13] (.alt 14 [1,6,9] (.op 15 [] (.alt 16 [1] (.of [(17,[]),(18,[1,6,9,13]),(19,[])]) (.alt 18 [1,6,9,13] (.of [(16,[1]),(17,[]),(19,[])]) .stop))) (.alt 18 [1,6,9,13] (.of [(14,[1,6,9]),(15,[]),(16,[1]),(17,[]),(19,[])]) .stop)) (.alt 14 [1,6,9] (.op 15 [] (.alt 2 [1,6,9,13] (.alt 16 [1] (.of [(17,[]),(18,[1,6,9,13]),(19,[])]) (.alt 18 [1,6,9,13] (.of [(16,[1]),(17,[]),(19,[])]) .stop)) (.alt 18 [1,6,9,13] (.of [(2,[1,6,9,13]),(16,[1]),(17,[]),(19,[])]) .stop))) (.alt 18 [1,6,9,13] (.alt 2 [1,6,9,13] (.of [(14,[1,6,9]),(15,[]),(16,[1]),(17,[]),(19,[])]) (.alt 14 [1,6,9] (.of [(15,[]),(2,[1,6,9,13]),(16,[1]),(17,[]),(19,[])]) .stop)) .stop))))))))))))))))
 | _=>.nil
theorem azr:PL 38:=dK Tryz.func38
theorem azs:PL 97:=dK Tryz.func97
end Go.Proofs.YtpdlpabnlkofmaaGreatDoor
namespace Go.Proofs.YtpdlpabnlkofmaaGreatDoor
open Go.Fw
def Q1{p:cE}(hc:GC p):yy (eW p):=λv E=>by
 obtain⟨c,B,rfl⟩:=oj.1 E
 have h:iS 4294967296 c=false:=by
  rcases List.mem_append.1 B with h1|h1
  .obtain⟨l,u,h2⟩:=List.mem_flatten.1 h1
   exact(hc.f.lines l u).2 c h2
  .exact hc.f.iR c h1
 unfold iS at h
 simp only[Bool.or_eq_false_iff,decide_eq_false_iff_not]at h
 show -9223372036854775808<=c.n/\c.n<=9223372036854775807
 omega
def ae7{p:cE}{room:Int}(hc:GC p):J4 (gY p room):=by
 have h:=Q1 hc
 exact J4.begin (m:=xH p room) ⟨h,h.take _,h,λk x u=>by cases u⟩
def vL(l:List Bool)(j:Nat):Int×Int:=if ve (l.drop j)<(l.drop j).length then(2,((j+ve (l.drop j):Nat):Int))else(1,0)
theorem alx{l:List Bool}{j:Nat}{b:Bool}(h:l[j]?=some b)(hb:b=false):vL l j=(2,(j:Int)):=by
 unfold vL
 rw[zb h,hb,ew (by show 0<_;simp)];rfl
theorem aly{l:List Bool}{j:Nat}{b:Bool}(h:l[j]?=some b)(hb:b=true):vL l j=vL l (j+1):=by
 have e:ve (l.drop j)=ve (l.drop (j+1))+1:=by rw[zb h,hb];rfl
 grind[vL]
theorem alz{l:List Bool}{j:Nat}(h:l.length<=j):vL l j=(1,0):=by grind[vL]
theorem alA{m:gN}(h:¬ m.fault≠0)(h2:mN m=false)(h3:lB m=true):oh m=vL (fe m) 0:=by
 unfold vL
 rw[List.drop_zero,u1]
 by_cases c:ve (fe m)<(fe m).length
 .rw[ew c]
  have e:yC (fe m)=ve (fe m):=by unfold yC;omega
  rw[aa4 h h2 h3 cK,e]
 rw[ej c]
 have e:yC (fe m) = -1:=by unfold yC;omega
 rw[aa5 h h2 h3 cK]
def C97(K:hM)(p:Nat)(m:gN)(w:World)(hm:Has (qP K p m) w)(hw:∀w',Ext w w'->K w')(O:oK m)(hvo:J4 m)(Df:m.mem.dU=eW m.p):CR 97 [.pointer (some ⟨p,0,none⟩)] w (λv w'=>∃ev:aJ,v=ia ev/\lh (eD λw=>mh w ev (xQ m)) w w'):=by
 obtain⟨a,B⟩:=qP.rd hm;have G:=B.b.cell (o:=8) rfl;have iV:=qN m.p;have hcb:=O.pz.dS;have azi:m.mem.l.length=(iu m.p).length:=by rw[O.mem.ll,Df];unfold eW;grind
 have T0:(iu m.p).length<=20:=by have:=O.mem.fl;have:=O.mem.ll;omega
 obtain⟨ov,fv,lv,kv,wv,ws,jZ,E,hmo,hmf,CB,asf,hmw⟩:=B.mem.ex;have EZ:(fe m).length<=1000000:=by grind[fe]
 have u:=St.start w;refine oM Tryz.func97 (pl:=P97) ?_;refine aM u gQ (λb2 _ u=>have u:=u.enc (cs':=j0 (⟨0,0,0,bX⟩:aJ)) rfl;aV ayK u (C74 K p m _ (hm.ext u.aG) (λ_ e=>hw _ (u.aG.then e)) O) λ_ U u=>dY ayL u (C75 K p m _ (hm.ext u.aG) (λ_ e=>hw _ (u.aG.then e)) O hvo Df) λW _ cL u=>aM u yb λb3 _ u=>aI (x:=iU m) u yL rfl rfl λ_ u=>?_);have u:=u.drew;refine⟨λjv w'=>∃(J:Nat) (sv:SV),jv=.pointer (some ⟨J,0,none⟩)/\St w aZ [bY J (j0 (⟨0,0,m.bZ,sv⟩:aJ)),bH (ia (sv:SV)) (m.mem.l.take (ey m.p).toNat),bY b3 (j0 (iU m)),bH W (fe m),bY b2 (j0 (⟨0,0,0,bX⟩:aJ))] w',?_,?_⟩
 .refine aA Lb (aB (v:=hZ m.bZ) bM u.hb rfl (aE (aA tm (bO qn (G.ext u.aG) (aE (aA rX (bO eg ((E.cell (o:=2) rfl).ext u.aG) (aE (aA oR (qi a.pv er (mT.ext B.b u.aG) rfl ?_))))))))));refine⟨bD ([]:List Int) u cS rfl rfl (dL rfl) (λY _ u=>⟨aF bM (u.p1.hb.cell rfl),⟨aF qn (G.ext u.aG),⟨aF eg ((E.cell (o:=2) rfl).ext u.aG),⟨jz a.pv er (mT.ext B.b u.aG) rfl,⟨aV IE u (C62 m.p a.pv _ (B.uk.pr _ (hw _ u.aG)) O.pz) (λ_ U u=>⟨aF bM (u.p1.hb.cell rfl),⟨aF qn (G.ext u.aG),⟨aF eg ((E.cell (o:=2) rfl).ext u.aG),l8 cS CB cK cK λV M=>⟨?_,?_,trivial⟩⟩⟩⟩),?_,trivial⟩⟩⟩⟩⟩),aV IE u (C62 m.p a.pv _ (B.uk.pr _ (hw _ u.aG)) O.pz) (λw23 U u=>⟨aF bM (u.hb.cell rfl),⟨aF qn (G.ext u.aG),⟨aF eg ((E.cell (o:=2) rfl).ext u.aG),l8 cS CB cK cK λV M=>⟨bD ([]:List Int) u cS rfl rfl (dL rfl) (λY w24 u=>⟨aF bM (u.p1.hb.cell rfl),⟨aF qn (G.ext u.aG),⟨aF eg ((E.cell (o:=2) rfl).ext u.aG),⟨jz a.pv er (mT.ext B.b u.aG) rfl,⟨?_,?_,trivial⟩⟩⟩⟩⟩),?_,trivial⟩⟩⟩⟩),?_,trivial⟩
  .refine bJ u cS (M.ext u.aG) (by rw[l0];simp;omega) ee (λI _ u=>?_);refine⟨aF bM (u.p1.hb.cell rfl),?_⟩;rw[s4]at u;obtain⟨sv,rfl⟩:=u.fJ;refine pop (lg m.bZ _ _ _) (aM u gQ λJ _ u=>?_);refine⟨aF bM (u.p2.hb.cell rfl),?_⟩;refine⟨aF qn (G.ext u.aG),?_⟩;refine⟨aF eg ((E.cell (o:=2) rfl).ext u.aG),?_⟩;refine⟨jz a.pv er (mT.ext B.b u.aG) rfl,?_⟩;exact aI (x:=(⟨0,0,m.bZ,sv⟩:aJ)) u eX rfl rfl (λ_ u=>⟨_,_,rfl,u⟩)
  .refine aM u gQ (λJ _ u=>?_);refine⟨aF bM (u.p2.hb.cell rfl),?_⟩;refine⟨aF qn (G.ext u.aG),?_⟩;refine⟨aF eg ((E.cell (o:=2) rfl).ext u.aG),?_⟩;refine⟨jz a.pv er (mT.ext B.b u.aG) rfl,?_⟩;refine bJ u.p1 cS (M.ext u.aG) (by rw[l0];simp;omega) ee (λI _ u=>?_);refine⟨aF bM (u.p2.hb.cell rfl),?_⟩;rw[s4]at u;obtain⟨sv,rfl⟩:=u.fJ;exact pop (lg m.bZ _ _ _) (aI (x:=(⟨0,0,m.bZ,sv⟩:aJ)) u.p1 eX rfl rfl λ_ u=>⟨_,_,rfl,u⟩)
  .refine aM u gQ (λJ _ u=>?_);refine⟨aF bM (u.p2.hb.cell rfl),?_⟩;refine⟨aF qn (G.ext u.aG),?_⟩;refine⟨aF eg ((E.cell (o:=2) rfl).ext u.aG),?_⟩;refine⟨jz a.pv er (mT.ext B.b u.aG) rfl,?_⟩;refine aV IE u (C62 m.p a.pv _ (B.uk.pr _ (hw _ u.aG)) O.pz) (λw20 U u=>?_);refine⟨aF bM (u.p2.hb.cell rfl),?_⟩;refine⟨aF qn (G.ext u.aG),?_⟩;refine⟨aF eg ((E.cell (o:=2) rfl).ext u.aG),?_⟩;refine l8 cS CB cK cK (λV M=>bJ u.p1 cS (M.ext u.aG) (by rw[l0];simp;omega) ee λI w21 u=>?_)
   refine⟨aF bM (u.p2.hb.cell rfl),?_⟩;rw[s4]at u;obtain⟨sv,rfl⟩:=u.fJ;exact pop (lg m.bZ _ _ _) (aI (x:=(⟨0,0,m.bZ,sv⟩:aJ)) u.p1 eX rfl rfl λ_ u=>⟨_,_,rfl,u⟩)
  .refine bJ u cS (M.ext u.aG) (by rw[l0];simp;omega) ee (λI w25 u=>?_);refine⟨aF bM (u.p1.hb.cell rfl),?_⟩;rw[s4]at u;obtain⟨sv,rfl⟩:=u.fJ;refine pop (lg m.bZ _ _ _) (aM u gQ λJ w26 u=>?_);refine⟨aF bM (u.p2.hb.cell rfl),?_⟩;refine⟨aF qn (G.ext u.aG),?_⟩;refine⟨aF eg ((E.cell (o:=2) rfl).ext u.aG),?_⟩;refine⟨jz a.pv er (mT.ext B.b u.aG) rfl,?_⟩;exact aI (x:=(⟨0,0,m.bZ,sv⟩:aJ)) u eX rfl rfl (λ_ u=>⟨_,_,rfl,u⟩)
  .refine aM u gQ (λJ _ u=>?_);refine⟨aF bM (u.p2.hb.cell rfl),?_⟩;refine⟨aF qn (G.ext u.aG),?_⟩;refine⟨aF eg ((E.cell (o:=2) rfl).ext u.aG),?_⟩;refine⟨jz a.pv er (mT.ext B.b u.aG) rfl,?_⟩;refine bJ u.p1 cS (M.ext u.aG) (by rw[l0];simp;omega) ee (λI _ u=>?_);refine⟨aF bM (u.p2.hb.cell rfl),?_⟩;rw[s4]at u;obtain⟨sv,rfl⟩:=u.fJ;exact pop (lg m.bZ _ _ _) (aI (x:=(⟨0,0,m.bZ,sv⟩:aJ)) u.p1 eX rfl rfl λ_ u=>⟨_,_,rfl,u⟩)
  .refine aM u gQ (λJ _ u=>?_);refine⟨aF bM (u.p1.hb.cell rfl),?_⟩;refine⟨aF qn (G.ext u.aG),?_⟩;refine⟨aF eg ((E.cell (o:=2) rfl).ext u.aG),?_⟩;refine⟨jz a.pv er (mT.ext B.b u.aG) rfl,?_⟩;refine bD ([]:List Int) u cS rfl rfl (dL rfl) (λY _ u=>?_);refine⟨aF bM (u.p2.hb.cell rfl),?_⟩;refine⟨aF qn (G.ext u.aG),?_⟩;refine⟨aF eg ((E.cell (o:=2) rfl).ext u.aG),?_⟩;refine⟨jz a.pv er (mT.ext B.b u.aG) rfl,?_⟩;refine bJ u cS (M.ext u.aG) (by rw[l0];simp;omega) ee (λI _ u=>?_);refine⟨aF bM (u.p2.hb.cell rfl),?_⟩
   rw[s4]at u;obtain⟨sv,rfl⟩:=u.fJ;exact pop (lg m.bZ _ _ _) (aI (x:=(⟨0,0,m.bZ,sv⟩:aJ)) u.p1 eX rfl rfl λ_ u=>⟨_,_,rfl,u⟩)
  refine aM u gQ (λJ _ u=>?_);refine⟨aF bM (u.p1.hb.cell rfl),?_⟩;refine⟨aF qn (G.ext u.aG),?_⟩;refine⟨aF eg ((E.cell (o:=2) rfl).ext u.aG),?_⟩;refine⟨jz a.pv er (mT.ext B.b u.aG) rfl,?_⟩;refine⟨?_,?_,trivial⟩
  .refine bD ([]:List Int) u cS rfl rfl (dL rfl) (λY _ u=>?_);refine⟨aF bM (u.p2.hb.cell rfl),?_⟩;refine⟨aF qn (G.ext u.aG),?_⟩;refine⟨aF eg ((E.cell (o:=2) rfl).ext u.aG),?_⟩;refine⟨jz a.pv er (mT.ext B.b u.aG) rfl,?_⟩;refine aV IE u (C62 m.p a.pv _ (B.uk.pr _ (hw _ u.aG)) O.pz) (λ_ U u=>?_);refine⟨aF bM (u.p2.hb.cell rfl),?_⟩;refine⟨aF qn (G.ext u.aG),?_⟩;refine⟨aF eg ((E.cell (o:=2) rfl).ext u.aG),?_⟩;refine l8 cS CB cK cK (λV M=>bJ u cS (M.ext u.aG) (by rw[l0];simp;omega) ee λI _ u=>?_)
   refine⟨aF bM (u.p2.hb.cell rfl),?_⟩;rw[s4]at u;obtain⟨sv,rfl⟩:=u.fJ;exact pop (lg m.bZ _ _ _) (aI (x:=(⟨0,0,m.bZ,sv⟩:aJ)) u.p1 eX rfl rfl λ_ u=>⟨_,_,rfl,u⟩)
  refine aV IE u (C62 m.p a.pv _ (B.uk.pr _ (hw _ u.aG)) O.pz) (λ_ U u=>?_);refine⟨aF bM (u.p1.hb.cell rfl),?_⟩;refine⟨aF qn (G.ext u.aG),?_⟩;refine⟨aF eg ((E.cell (o:=2) rfl).ext u.aG),?_⟩;refine l8 cS CB cK cK (λV M=>bD ([]:List Int) u cS rfl rfl (dL rfl) λY _ u=>?_);refine⟨aF bM (u.p2.hb.cell rfl),?_⟩;refine⟨aF qn (G.ext u.aG),?_⟩;refine⟨aF eg ((E.cell (o:=2) rfl).ext u.aG),?_⟩;refine⟨jz a.pv er (mT.ext B.b u.aG) rfl,?_⟩;refine bJ u cS (M.ext u.aG) (by rw[l0];simp;omega) ee (λI _ u=>?_)
  refine⟨aF bM (u.p2.hb.cell rfl),?_⟩;rw[s4]at u;obtain⟨sv,rfl⟩:=u.fJ;exact pop (lg m.bZ _ _ _) (aI (x:=(⟨0,0,m.bZ,sv⟩:aJ)) u.p1 eX rfl rfl λ_ u=>⟨_,_,rfl,u⟩)
 rintro _ _ ⟨J,sv,rfl,u⟩ _
 have Z:∀w',St w aZ [bY b2 (j0 (⟨(oh m).1,(oh m).2,m.bZ,sv⟩:aJ)),bY J (j0 (⟨(oh m).1,(oh m).2,m.bZ,sv⟩:aJ)),bH (ia (sv:SV)) (m.mem.l.take (ey m.p).toNat),bY b3 (j0 (iU m)),bH W (fe m)] w'->∃ev:aJ,ia (⟨(oh m).1,(oh m).2,m.bZ,sv⟩:aJ)=ia ev/\lh (eD λw=>mh w ev (xQ m)) w w':=λw' u=>by
  have u:=u.drop.drop.p1.drop.p1.drop.freeze.dN (Ψ:=λw=>mh w (⟨(oh m).1,(oh m).2,m.bZ,sv⟩:aJ) (xQ m)) (λ_ h=>⟨sv,rfl,DL.j1 h⟩);exact⟨_,rfl,u.fresh⟩
 refine aA As (aB (v:=hZ m.fault) bM u.p2.hb rfl (bV (aC (λc1=>?_) λc1=>?_)))
 .rw[aa2 c1]at Z;exact aA lF (aT u bM (dL rfl) rfl λ_ u=>aA As (aB (v:=hZ m.fault) bM u.p2.hb rfl (aA tn (aT u bM (dL rfl) rfl λ_ u=>aD (x:=(⟨(3,m.fault).1,(3,m.fault).2,m.bZ,sv⟩:aJ)) eX u.At (aI (x:=(⟨(3,m.fault).1,(3,m.fault).2,m.bZ,sv⟩:aJ)) u.p4 eX rfl rfl λ_ u=>aD (x:=(⟨(3,m.fault).1,(3,m.fault).2,m.bZ,sv⟩:aJ)) eX u.At (Z _ u))))))
 refine aA qp (aB (v:=.bool (mN m)) Ap u.p2.hb rfl (aY (λc2=>?_) λc2=>?_))
 .rw[aa3 c1 c2]at Z;exact aA lF (aT u bM (dL rfl) rfl λ_ u=>aD (x:=(⟨((4,0):Int×Int).1,((4,0):Int×Int).2,m.bZ,sv⟩:aJ)) eX u.At (aI (x:=(⟨((4,0):Int×Int).1,((4,0):Int×Int).2,m.bZ,sv⟩:aJ)) u.p4 eX rfl rfl λ_ u=>aD (x:=(⟨((4,0):Int×Int).1,((4,0):Int×Int).2,m.bZ,sv⟩:aJ)) eX u.At (Z _ u)))
 refine aA qo (aB (v:=.bool (lB m)) Ap u.p2.hb rfl (bR (aY (λc3=>?_) λc3=>?_)))
 .rw[aa6 c1 c2 (by simpa using c3)]at Z;exact aD (x:=(⟨((0,0):Int×Int).1,((0,0):Int×Int).2,m.bZ,sv⟩:aJ)) eX u.At (aI (x:=(⟨((0,0):Int×Int).1,((0,0):Int×Int).2,m.bZ,sv⟩:aJ)) u.p4 eX rfl rfl λ_ u=>aD (x:=(⟨((0,0):Int×Int).1,((0,0):Int×Int).2,m.bZ,sv⟩:aJ)) eX u.At (Z _ u))
 rw[alA c1 c2 (by simpa using c3)]at Z;refine aA lF (aT u bM (dL rfl) rfl λw23 u=>aK uB u.p3.dX (fh cK ?_));refine⟨λmm y w'=>∃j:Nat,y=hZ ((j:Int)-1)/\mm=j/\j<=(fe m).length/\St w aZ [bY J (j0 (⟨(vL (fe m) j).1,(vL (fe m) j).2,m.bZ,sv⟩:aJ)),bH (ia (sv:SV)) (m.mem.l.take (ey m.p).toNat),bY b3 (j0 (iU m)),bH W (fe m),bY b2 (j0 (⟨0,0,0,bX⟩:aJ))] w',⟨_,(fe m).length,rfl,rfl,o6 _,by rw[alz (o6 _)];exact u⟩,?_⟩;rintro j _ w24 ⟨_,rfl,rfl,hj,u⟩ _;refine cR (aC (λc4=>?_) λc4=>?_)
 rotate_left
 .obtain rfl:j=0:=cK
  exact aD (x:=(⟨(vL (fe m) 0).1,(vL (fe m) 0).2,m.bZ,sv⟩:aJ)) eX u.At (aI (x:=(⟨(vL (fe m) 0).1,(vL (fe m) 0).2,m.bZ,sv⟩:aJ)) u.p4 eX rfl rfl λ_ u=>aD (x:=(⟨(vL (fe m) 0).1,(vL (fe m) 0).2,m.bZ,sv⟩:aJ)) eX u.At (Z _ u))
 obtain⟨i,rfl⟩:∃i,j=i+1:=⟨j-1,cK⟩;rw[show(((i+1:Nat):Int)-1)=(i:Int)from cK];obtain⟨e,U⟩:=gx (fe m) (i:=((i:Nat):Int).toNat) cK;refine⟨λw'=>St w aZ [bY J (j0 (⟨(vL (fe m) i).1,(vL (fe m) i).2,m.bZ,sv⟩:aJ)),bH (ia (sv:SV)) (m.mem.l.take (ey m.p).toNat),bY b3 (j0 (iU m)),bH W (fe m),bY b2 (j0 (⟨0,0,0,bX⟩:aJ))] w',?_,?_⟩;rotate_left
 .intro w26 u _;exact fh cK ⟨_,Nat.lt_succ_self _,i,rfl,rfl,cK,u⟩
 refine aQ uB u.p3.dX cK U (λq hq=>aD Ap hq ?_);rw[qa]at U;refine bR (aY (λc5=>?_) λc5=>?_)
 .rw[alx U (by simpa using c5)];exact aA lF (aT u bM (dL rfl) rfl λ_ u=>aA tn (aT u bM (dL rfl) rfl λ_ u=>u))
 rw[aly U (by simpa using c5)];exact u
theorem Tt{p:cE}{room c:Int}{l:List aS}{m:gN}{o:List cB}{f:Int}(h:eO p room c=0)(B:tg c (gY p room) [] l=(m,o,f))(u:f≠0):px p room c l=(zE,[],f,(o.length:Int)):=by
 grind[px,zE]
theorem ae8{p:cE}{room c:Int}{l:List aS}{m:gN}{o:List cB}(h:eO p room c=0)(u:tg c (gY p room) [] l=(m,o,0)):px p room c l=(xQ m,o,0,0):=by
 grind[px,xQ]
structure tS(p:cE)(n:Nat)(m:gN):Prop where
 go:wz p n m
 vo:J4 m
 fi:m.mem.dU=eW p
def tS.step{p:cE}{n:Nat}{m:gN}{q:aS}(h:tS p n m)(hc:GC p):tS p (n+1) (n8 m q).1:=⟨h.go.step hc,h.vo.do,(Q0 h.go.ok q).trans h.fi⟩
def tS.new{p:cE}{room:Int}(u:PZ p)(hc:GC p)(B:1<=room/\room<=16):tS p 0 (gY p room):=⟨wz.new u hc B,ae7 hc,rfl⟩
def tS.mono{p:cE}{a b:Nat}{m:gN}(h:tS p a m)(u:a<=b):tS p b m:=⟨h.go.mono u,h.vo,h.fi⟩
def C38(K:hM)(p:cE)(pv:bP)(room c:Int)(lv:Value)(l:List aS)(w:World)(E:∀w',Ext w w'->K w')(hp:Io K pv p)(hz:PZ p)(hl:F8 K lv l)(BC:l.length<=1000)(Ka:∀q∈l,q.cut.length<=1000) :
  CR 38 [ia pv,hZ room,hZ c,lv] w (λv w'=>∃(ev:aJ) (ov:Value),v=.tuple #[ia ev,ov,hZ (px p room c l).2.2.1,hZ (px p room c l).2.2.2]/\lh (sep (eD λw=>mh w ev (px p room c l).1) (bH ov (px p room c l).2.1)) w w'):=by
 have u:=St.start w;refine alw _ _ _ _ _ _ ?_;unfold S38;refine cI (x:=pv) u (λb4 w1 u=>aM u gQ λb8 w2 u=>have u:=u.enc (cs':=j0 (⟨0,0,0,bX⟩:aJ)) rfl;aD er u.p1.At (dO ayF (C13 K p pv room _ (λ_ e=>E _ (u.aG.then e)) hp hz) ?_));rintro v20 w3 (⟨h1,rfl,he⟩|⟨O,h1,rfl,he⟩|⟨O,hr,b,rfl,cL⟩)
 .have u:=u.ext he;refine aO rfl (aO rfl (bV (aC (λ_=>?_) λh=>absurd h1 h)));have e:eO p room c=fm p:=by unfold eO;rw[ew h1]
  refine pop qY (aI (x:=(⟨0,0,0,bX⟩:aJ)) u eX rfl rfl λw4 u=>aD (x:=(⟨0,0,0,bX⟩:aJ)) eX u.At ?_);rw[J9 (by rw[e];exact h1),e];exact⟨_,_,rfl,(St.join ((u.drop.drop.eL (α:=cB)).fu (Φ:=λw=>mh w (⟨0,0,0,bX⟩:aJ) zE) wg)).fresh⟩
 .have u:=u.ext he;refine aO rfl (aO rfl (bV (aC (λ_=>?_) λh=>absurd (by decide:(1:Int)≠0) h)));have e:eO p room c=1:=by unfold eO;rw[ej (by rw[O];decide),ew h1]
  refine pop qY (aI (x:=(⟨0,0,0,bX⟩:aJ)) u eX rfl rfl λw4 u=>aD (x:=(⟨0,0,0,bX⟩:aJ)) eX u.At ?_);rw[J9 (by rw[e];decide),e];exact⟨_,_,rfl,(St.join ((u.drop.drop.eL (α:=cB)).fu (Φ:=λw=>mh w (⟨0,0,0,bX⟩:aJ) zE) wg)).fresh⟩
 have zX:=vK O;have u:=u.made cL;refine aO rfl (aO rfl (bV (aC (λh=>absurd rfl h) λ_=>?_)));refine⟨λjv w'=>jv=.bool (decide (c<0\/8<c))/\w'=w3,?_,?_⟩
 .exact aR (aC (λh=>⟨vb (ez (.inl h)).symm,rfl⟩) λ_=>cO ⟨vb (ga.2 cK),rfl⟩)
 rintro _ _ ⟨rfl,rfl⟩ _;refine aC (λh2=>?_) (λh2=>?_)
 .have e:eO p room c=1:=by unfold eO;rw[ej (by rw[O];decide),ej cK,ew h2]
  refine pop qY (aI (x:=(⟨0,0,0,bX⟩:aJ)) u.p1 eX rfl rfl λ_ u=>aD (x:=(⟨0,0,0,bX⟩:aJ)) eX u.At ?_);rw[J9 (by rw[e];decide),e];exact⟨_,_,rfl,(St.join ((u.drop.drop.drop.eL (α:=cB)).fu (Φ:=λw=>mh w (⟨0,0,0,bX⟩:aJ) zE) wg)).fresh⟩
 have Y:eO p room c=0:=by unfold eO;rw[ej (by rw[O];decide),ej cK,ej h2]
 obtain⟨ts,V⟩:=hl;have hn:ts.length=l.length:=(V _ (E _ u.aG)).2.1;refine bD ([]:List cB) u OH rfl rfl (dL rfl) (λKl _ u=>?_)
 refine⟨λmm o y w'=>∃(k:Nat) (m:gN) (out:List cB),y=hZ (k:Int)/\mm=ts.length-k/\k<=l.length/\out.length=k/\tS p k m/\(tg c (gY p room) [] l)=tg c m out (l.drop k)/\St w aZ [bH o out,qP K b m,bY b8 (j0 (⟨0,0,0,bX⟩:aJ)),bY b4 (j0 pv)] w',
  ⟨_,0,gY p room,[],rfl,rfl,l1 _,rfl,tS.new hz zX hr,rfl,u⟩,?_⟩
 rintro mm ov _ w8 ⟨k,m,out,rfl,rfl,hk,ho,B,G,u⟩ _;have M:=B.go;have Df:=B.fi.trans (by rw[M.pr]:eW p=eW m.p);refine aK gg (V _ (E _ u.aG)).1 (aR (aC (λc1=>?_) λc1=>?_));rotate_left
 .rw[D7 cK]at G;refine dO azs (C97 K b m _ u.p1.has (λ_ e=>E _ (u.aG.then e)) M.ok B.vo Df) ?_;rintro _ w9 ⟨e2,rfl,cL⟩;have u:=u.made cL;refine aI (x:=e2) u.p3 eX rfl rfl (λw10 u=>aD (x:=e2) eX u.At ?_);rw[ae8 Y G];exact⟨e2,ov,rfl,(St.join u.drop.p2.drop.p2.drop).fresh⟩
 obtain⟨q,hq⟩:=gx l (i:=k) cK;obtain⟨tq,Ts⟩:=gx ts (i:=((k:Nat):Int).toNat) cK;have U:∀w',K w'->mh w' tq q:=λw' h=>(V w' h).2.2 k tq q Ts hq;obtain⟨gc,rfl,_⟩:=U _ (E _ u.aG)
 have hgc:∀w',K w'->dC (λ_=>True) w' (ia gc) q.cut:=λw' h=>by
  obtain⟨gc2,e,h3⟩:=U w' h;cases e
  exact DL.flat h3
 have hqc:=Ka q (kE hq);rw[zb hq]at G;have rp:=M.mb.mono (b:=1000000) cK;have C1:=M.cr;refine⟨λjv w'=>jv=.bool (decide (q.kind=3/\c<=m.bZ))/\w'=w8,?_,?_⟩
 .refine aQ gg (V _ (E _ u.aG)).1 cK Ts (λq37 I=>bW q.kind mW I rfl rfl λr g=>aD (x:=q.kind) bM g (aH (aC (λJ=>?_) λJ=>⟨vb (fN λh=>J h.1).symm,rfl⟩)));obtain⟨a,hra⟩:=qP.rd u.p1.has;exact aE (aA Dn (bO bM (hra.b.cell (o:=7) rfl) (cR ⟨vb (ga.2 ⟨λh=>⟨J,h⟩,λh=>h.2⟩),rfl⟩)))
 rintro _ w9 ⟨rfl,rfl⟩ _;refine aC (λJ=>?_) (λJ=>?_)
 .rw[tg,ew J]at G;refine pop qY (aI (x:=(⟨0,0,0,bX⟩:aJ)) u.p2 eX rfl rfl λw10 u=>aD (x:=(⟨0,0,0,bX⟩:aJ)) eX u.At ?_);rw[Tt Y G ee,ho];exact⟨_,_,rfl,(St.join ((u.drop.drop.drop.drop.eL (α:=cB)).fu (Φ:=λw=>mh w (⟨0,0,0,bX⟩:aJ) zE) wg)).fresh⟩
 rw[tg,ej J]at G;refine aQ gg (V _ (E _ u.aG)).1 cK Ts (λq37 I=>aD kF I (bF ayJ u.p1 (H':=λ_=>qP K b (n8 m q).1) (Φ:=λv _=>v=.tuple #[ia (n8 m q).2.1,hZ (n8 m q).2.2]) (λF2 ef Z=>?_) ?_))
 .exact C25 K b m q gc F2 _ ef (λw' hc=>E _ (Z w' hc).aG) M.ok B.vo (M.pr▸zX) rp cK Df (λw1 hc _ e=>E _ ((Z w1 hc).aG.then e)) (λw' hc=>hgc _ (E _ (Z w' hc).aG)) hqc
 rintro _ _ rfl u;refine aO rfl (aO rfl (aM u mu λb16 _ u=>aI (x:=(n8 m q).2.1) u fj rfl rfl λ_ u=>bV (aC (λW=>?_) λW=>?_)))
 .rw[ew W]at G;refine pop qY (aI (x:=(⟨0,0,0,bX⟩:aJ)) u.p3 eX rfl rfl λ_ u=>aD (x:=(⟨0,0,0,bX⟩:aJ)) eX u.At ?_);rw[Tt Y G W,ho];exact⟨_,_,rfl,(St.join ((u.drop.drop.drop.drop.drop.eL (α:=cB)).fu (Φ:=λw=>mh w (⟨0,0,0,bX⟩:aJ) zE) wg)).fresh⟩
 rw[ej W]at G;refine aD (x:=(n8 m q).2.1) fj u.At (bD [(n8 m q).2.1] u OH rfl rfl (dL rfl) λs64 _ u=>?_);have alv:=u.dX;exact bJ u.p3 OH alv (by rw[mv];omega) ee (λ_ _ u=>aN cK ⟨ts.length-(k+1),cK,k+1,_,out++[(n8 m q).2.1],rfl,rfl,cK,by rw[la,mv];omega,B.step zX,G,u.p1.drop.p1.drop⟩)
variable (w:World) (K:Value->hM)
def P41:dI:=λi=>match i with
 | 6=>.run 0 9
 | _=>.nil
def P26:dI:=λi=>match i with
 | 6=>(.of [(1,[]),(2,[]),(3,[]),(4,[]),(5,[]),(6,[]),(7,[]),(8,[]),(9,[]),(10,[]),(11,[]),(12,[]),(13,[]),(0,[5,10]),(14,[]),(15,[]),(16,[])])
 | _=>.nil
theorem ae9:PL 29:=dK Tryz.func29
theorem azt:PL 99:=dK Tryz.func99
theorem azu:PL 26:=dK Tryz.func26
end Go.Proofs.YtpdlpabnlkofmaaGreatDoor
namespace Go.Proofs.YtpdlpabnlkofmaaGreatDoor
open Go.Fw
def Q2(e:aS):Bool:=decide (2<=e.kind/\e.kind<=4)
def C29(a:aS)(O:aJ)(b:aS)(U:aJ)(w:World)(E:mh w O a)(hb:mh w U b)(W:a.cut.length<=1073741824):CR 29 [ia O,ia U] w (λv w'=>v=.bool (decide (a=b))/\Ext w w'):=by
 obtain⟨B,rfl,E⟩:=E;obtain⟨I,rfl,hb⟩:=hb;have u:=St.start w;refine fg Tryz.func29 ?_;refine cI (x:=(⟨a.kind,a.t,a.i,B⟩:aJ)) u (λb2 _ u=>cI (x:=(⟨b.kind,b.t,b.i,I⟩:aJ)) u λb3 _ u=>?_);refine⟨λV w'=>V=.bool (decide (a=b))/\St w aZ [bY b3 (j0 (⟨b.kind,b.t,b.i,I⟩:aJ)),bY b2 (j0 (⟨a.kind,a.t,a.i,B⟩:aJ))] w',?_,?_⟩
 .refine aA lF (aB (v:=hZ a.kind) bM u.p1.hb rfl (aA lF (aB (v:=hZ b.kind) bM u.hb rfl (aH (aC (λM=>?_) λM=>⟨vb (fN λh=>M (by rw[h])).symm,u⟩)))));refine aA tn (aB (v:=hZ a.t) bM u.p1.hb rfl (aA tn (aB (v:=hZ b.t) bM u.hb rfl ?_)));exact aH (aC (λG=>aA RD (aB (v:=hZ a.i) bM u.p1.hb rfl (aA RD (aB (v:=hZ b.i) bM u.hb rfl (aH (aC (λJ=>aA RE (aB (v:=ia (B:SV)) eg u.p1.hb rfl (aA RE (aB (v:=ia (I:SV)) eg u.hb rfl (aV amG u (C71 _ _ a.cut b.cut _ (DL.flat (E.ext u.aG)) (DL.flat (hb.ext u.aG)) W) λ_ _ u=>⟨vb (ga.2 ⟨λh=>Bp.2 ⟨M,G,J,h⟩,λh=>by rw[h]⟩),u⟩))))) λJ=>⟨vb (fN λh=>J (by rw[h])).symm,u⟩)))))) λG=>⟨vb (fN λh=>G (by rw[h])).symm,u⟩)
 rintro _ _ ⟨rfl,u⟩ _;exact⟨rfl,u.drop.drop.aG⟩
def C99(e:aS)(ev:aJ)(w:World)(B:mh w ev e):CR 99 [ia ev] w (λv w'=>v=.bool (Q2 e)/\Ext w w'):=by
 obtain⟨g,rfl,_⟩:=B;have u:=St.start w;refine fg Tryz.func99 ?_;refine cI (x:=(⟨e.kind,e.t,e.i,g⟩:aJ)) u (λb2 _ u=>?_);refine⟨λE w'=>E=.bool (Q2 e)/\St w aZ [bY b2 (j0 (⟨e.kind,e.t,e.i,g⟩:aJ))] w',?_,?_⟩
 .exact aA lF (aB (v:=hZ e.kind) bM u.hb rfl (aH (aC (λ_=>⟨vb (ez cK).symm,u⟩) λ_=>aA lF (aB (v:=hZ e.kind) bM u.hb rfl (aH (aC (λ_=>⟨vb (ez cK).symm,u⟩) λ_=>aA lF (aB (v:=hZ e.kind) bM u.hb rfl (aH ⟨vb (ga.2 cK),u⟩))))))))
 rintro _ _ ⟨rfl,u⟩ _;exact⟨rfl,u.drop.aG⟩
def F9(q:aS):aS:={q with cut:=q.cut.take 25}
def fr(l:List aS):List aS:=(l.take 40).map F9
def aa9(l:List aS):(fr l).length<=40/\∀q∈fr l,q.cut.length<=25:=by
 unfold fr
 refine⟨dD,λq u=>?_⟩
 obtain⟨x,_,rfl⟩:=oj.1 u
 show(x.cut.take 25).length<=25
 grind
theorem asA(xs:List Int):([]:List Int)++xs.take (min (xs.length:Int) 25).toNat=xs.take 25:=by
 rw[s4]
 rcases Int.le_total (xs.length:Int) 25 with h|h
 .rw[Int.min_eq_left h,qa,kO (o6 _),kO cK]
 grind
def C26(lv:Value)(l:List aS)(w:World)(hL:DL w lv l):CR 26 [lv] w (λv w'=>lh (eD λw=>DL w v (fr l)) w w'):=by
 obtain⟨ts,I,hD⟩:=hL.open;have hn:ts.length=l.length:=hD.1;have u:=St.start w;refine oM Tryz.func26 (pl:=P26) ?_;refine tF (α:=aS) u gg (λs6 _ u=>?_);refine⟨λZ o y w'=>∃k:Nat,y=hZ (k:Int)/\Z=40-k/\k<=40/\k<=l.length/\St w aZ [fU o ((l.take k).map F9)] w',⟨_,0,rfl,rfl,l1 _,l1 _,u⟩,?_⟩;rintro Z o _ w2 ⟨k,rfl,rfl,hk,xl,u⟩ _;have CB:((l.take k).map F9).length=k:=by rw[List.length_map,l0];omega
 refine⟨λjv w'=>jv=.bool (decide (k<l.length/\k<40))/\w'=w2,?_,?_⟩
 .exact aK gg (I.ext u.aG) (aR (aC (λ_=>aR ⟨vb (ga.2 cK),rfl⟩) λ_=>⟨vb (fN cK).symm,rfl⟩))
 rintro _ _ ⟨rfl,rfl⟩ _;refine aC (λc2=>?_) (λc2=>?_);rotate_left
 .rw[qF (xs:=l) (k:=k) (m:=40) cK cK c2]at u;exact u.mX.fresh
 obtain⟨q,hq⟩:=gx l (i:=k) cK;obtain⟨tq,J⟩:=gx ts (i:=((k:Nat):Int).toNat) cK;obtain⟨Y,rfl,V⟩:=hD.2 k tq q J hq;have hc:=DL.flat V;refine aQ gg I cK J (λq19 U=>aD kF (U.ext u.aG) (aM u BQ λb5 _ u=>aI (x:=(⟨q.kind,q.t,q.i,Y⟩:aJ)) u kF rfl rfl λ_ u=>have u:=u.drew;aQ gg I cK J λq24 M=>bW Y ma M rfl rfl λq25 G=>aD eg (G.ext u.aG) (aQ gg I cK J λq29 O=>bW Y ma O rfl rfl λq30 E=>aD eg (E.ext u.aG) (aK cS (hc.ext u.aG) (rB (jR cS hc cK cK λs34 W=>?_))))))
 refine bD ([]:List Int) u cS rfl rfl (dL rfl) (λs21 _ u=>?_);refine⟨eN eg (G.ext u.aG),?_⟩;refine⟨eN eg (E.ext u.aG),?_⟩;refine bJ u cS (W _ (hc.ext u.aG)) (by rw[l0];simp;omega) ee (λs35 _ u=>?_);rw[asA]at u;obtain⟨B,rfl⟩:=u.fJ;exact aA ma (aT u.p1 eg (dL rfl) rfl λ_ u=>have u:=u.enc (cs':=j0 (⟨q.kind,q.t,q.i,B⟩:aJ)) rfl;aD (x:=(⟨q.kind,q.t,q.i,B⟩:aJ)) kF u.At (have u:=u.p1.freeze.dN (Ψ:=λw=>mh w (⟨q.kind,q.t,q.i,B⟩:aJ) (F9 q)) (λ_ h=>⟨B,rfl,DL.j1 h⟩);gh (x:=F9 q) (s:=(⟨q.kind,q.t,q.i,B⟩:aJ)) u gg ee λ_ _ u=>gi u.p2 gg (by rw[CB,mv];omega) ee λ_ _ u=>aN cK ⟨_,cK,k+1,rfl,rfl,cK,cK,by rw[<- gd (k:=k) hq];exact u.p1.drop⟩))
variable (w:World) (K:Value->hM)
def P30:dI:=λi=>match i with
 | 3=>.run 0 10
 | _=>.nil
theorem azv:PL 98:=dK Tryz.func98
theorem Vl:PL 30:=dK Tryz.func30
theorem abb:PL 32:=dK Tryz.func32
end Go.Proofs.YtpdlpabnlkofmaaGreatDoor
namespace Go.Fw
section
variable {P:Program}{w w0:World}{A S:Nat->Prop}{L:List HP}{α:Type}[Flat α] {xs ys:List α}
theorem abc{T E G:Nat}{z:Option Nat}{v:Value}{i:Int}{K:Value->Prop}(ht:eQ P T=some (E,mI α,G,z))(I:dC S w v xs)
  (B:0<=i) (h1:i<=xs.length) (k:∀a:Option Addr,(∀w' (ys:List α),dC S w' v ys->dC S w' (.slice a i.toNat i.toNat) (ys.take i.toNat))->K (.slice a i.toNat i.toNat)):eP P (n4 T v none (some (hZ i)) (some (hZ i))) K:=by
 obtain⟨a,cap,rfl,J,h3⟩:=id I
 refine⟨_,JF ht (zQ (.inl ⟨rfl,rfl⟩) ⟨i,rfl,B,rfl⟩ ⟨i,rfl,B,rfl⟩ (l1 _) (o6 _) cK),k _ λw' ys u=>?_⟩
 refine u.aqR rfl (l1 _) ?_
 obtain⟨_,_,h4,_⟩:=u
 simp only[yo.injEq]at h4
 omega
theorem N0{T E kD R:Nat}{a:Option Addr}{n:Nat}{src:Value}{K:Value->hM}(hs:St w0 A L w)(ht:Vr P T E (mI α) kD)(hr:dC (λ_=>True) w (.slice a n n) xs)(uz:dC S w src ys)
  (hn:xs.length+ys.length<=1073741824) (hby:kD<=8192) (k:∀v' w',(St w0 A (bH v' (xs++ys)::L) w'\/(ys=[]/\v'=.slice a n n/\w'=w))->K v' w'):qZ P (Builtin.append_ #[T,T] R [.slice a n n,src].toArray) w K:=by
 obtain⟨hu,u,hi,oL,wJ,V⟩:=fp ht
 obtain⟨zv,J,Y⟩:∃zv,u.zero=some zv/\zv.cells.size=mI α:=by
  cases Ki:u.zero with
  | none=>rw[Ki]at V;cases V
  | some zv=>rw[Ki]at V;exact⟨zv,rfl,by simpa using V⟩
 have hmul:(xs.length+ys.length)*u.bytes<=140737488355328:=by
  have:=Nat.mul_le_mul hn (show u.bytes<=8192 by omega);omega
 obtain⟨a',CZ,hv,_,h3⟩:=id hr
 simp only[yo.injEq]at hv
 obtain⟨rfl,G,rfl⟩:=hv
 obtain⟨sa,U,rfl,hsc,Z⟩:=id uz
 by_cases W:ys=[]
 .subst W
  refine⟨.slice a n n,w,?_,k _ _ (.inr ⟨rfl,rfl,rfl⟩)⟩
  cases a<;>cases sa<;>simp[Builtin.append_,run_underlying hu,sizeOf,typeInfo,hi,Builtin.lenOf,Builtin.firstCells,loadCells,loadCellsFrom,storeCells]
 have Am:0<ys.length:=List.length_pos_iff.2 W
 rcases Z with⟨h,_⟩|⟨O,M,rfl,_,Vs⟩
 .exact absurd h W
 have I:∀(c:Nat),n<=c->c<n+ys.length->(Builtin.append_ #[T,T] R [.slice a n n,.slice (some ⟨O,M,none⟩) ys.length U].toArray).run P w=.ok (.slice (some ⟨w.heap.size,0,none⟩) (n+ys.length) (grownCap w (n+ys.length) c E)) (w.drew.alloc (.cells ((flat xs).toArray++(flat ys).toArray++Builtin.zeroCells zv.cells (grownCap w (n+ys.length) c E-(n+ys.length))) E))->
   qZ P (Builtin.append_ #[T,T] R [.slice a n n,.slice (some ⟨O,M,none⟩) ys.length U].toArray) w K:=λc _ hc Gi=>by
  have OC:=grownCap_ge w (n+ys.length) c E
  have he:Ext w (w.drew.alloc (.cells ((flat xs).toArray++(flat ys).toArray++Builtin.zeroCells zv.cells (grownCap w (n+ys.length) c E-(n+ys.length))) E)):=⟨rfl,rfl,rfl,ei,λb hb _=>xW w.drew _ b hb⟩
  have cL:=hs.new (H:=bH (.slice (some ⟨w.heap.size,0,none⟩) (n+ys.length) (grownCap w (n+ys.length) c E)) (xs++ys)) (F:=λk=>k=w.heap.size) he (by
   refine .inr ⟨w.heap.size,grownCap w (n+ys.length) c E,(Builtin.zeroCells zv.cells (grownCap w (n+ys.length) c E-(n+ys.length))).toList,by rw[la,G],⟨E,?_⟩,?_,λ_=>Iff.rfl⟩
   .refine Eq.trans (mn w.drew (.cells ((flat xs).toArray++(flat ys).toArray++Builtin.zeroCells zv.cells (grownCap w (n+ys.length) c E-(n+ys.length))) E)) ?_
    congr 2
    apply Array.ext'
    simp[gG]
   .refine⟨by rw[la,<- G];exact OC,zW (Eq.symm ?_)⟩
    have e:(Builtin.zeroCells zv.cells (grownCap w (n+ys.length) c E-(n+ys.length))).toList.length=(grownCap w (n+ys.length) c E-(n+ys.length))*mI α:=by
     rw[Array.length_toList,size_zeroCells,Y]
    rw[la,e,dA,la,<- G,<- Nat.add_mul]
    congr 1
    omega) λb hb=>by rw[hb];exact o6 _
  exact⟨_,_,Gi,k _ _ (.inl cL)⟩
 cases a with
 | none=>
  have hx:xs=[]:=by
   rcases h3 with⟨h,_⟩|⟨b,o,h,_⟩
   .exact h
   .cases h
  subst hx
  obtain rfl:n=0:=G
  refine I 0 (o6 _) cK ?_
  have B:=run_append_nil (P:=P) w T R E u zv hu hi J ⟨O,M,none⟩ ys.length U (flat ys) (by rw[dA,oL]) (rL Vs) Am cK (wS (by simpa using hmul:ys.length*u.bytes<=140737488355328) ee)
  rw[u1]
  simpa[kL]using B
 | some p=>
  have hcx:∀j v,(flat xs)[j]?=some v->w.cell? (p.add j)=some v:=λj v hj=>by
   rcases h3 with⟨h,_⟩|⟨b,o,h,_,h5⟩
   .rw[h,kL]at hj;simp at hj
   .cases h;exact rL h5 j v hj
  have B:=run_append_grow (P:=P) w T R E u zv hu hi J p n n (flat xs) (by rw[dA,oL,G]) hcx ⟨O,M,none⟩ ys.length U (flat ys) (by rw[dA,oL]) (rL Vs) cK cK (growslice_fits cK (by rw[G];exact hmul))
  exact I n (o6 _) cK B
end
end Go.Fw
namespace Go.Proofs.YtpdlpabnlkofmaaGreatDoor
open Go.Fw
def fW(c:Int):gN->List aS->gN×List aS
 | m,[]=>(m,[])
 | m,q::r=>if q.kind=3/\c<=m.bZ then fW c m r else if (n8 m q).2.2≠0 then fW c (n8 m q).1 r else((fW c (n8 m q).1 r).1,q::(fW c (n8 m q).1 r).2)
def dV(p:cE)(room c:Int)(l:List aS):List aS×aS×Int:=
 if eO p room c≠0 then([],zE,eO p room c)else((fW c (gY p room) l).2,xQ (fW c (gY p room) l).1,0)
theorem Tu{m:gN}{q:aS}(h:(n8 m q).2.2≠0):(n8 m q).1=m:=by
 unfold n8 at h |-
 split
 .rename_i h1;rw[h1]at h;exact absurd rfl h
 rename_i h1;rw[h1]at h;dsimp only at h |-
 split at h
 .rename_i h2
  rw[ew h2]
  split at h
  .rename_i h3
   rw[ew h3]
   split at h
   .exact absurd rfl h
   rfl
  exact absurd rfl h
 rename_i h2;rw[ej h2]
theorem Bx(c:Int):∀(l:List aS) (m:gN) (o:List cB),(tg c m o (fW c m l).2).1=(fW c m l).1/\(tg c m o (fW c m l).2).2.2=0
 | [],m,o=>⟨rfl,rfl⟩
 | q::r,m,o=>by
  unfold fW
  split
  .exact Bx c r m o
  rename_i h1
  split
  .rename_i h2
   rw[Tu h2]
   exact Bx c r m o
  .rename_i h2
   show(tg c m o (q::_)).1=_/\(tg c m o (q::_)).2.2=0
   rw[tg,ej h1,ej h2]
   exact Bx c r _ _
theorem Ga{p:cE}{room c:Int}(h:eO p room c=0)(l:List aS):(px p room c (fW c (gY p room) l).2).1=xQ (fW c (gY p room) l).1/\(px p room c (fW c (gY p room) l).2).2.2.1=0:=by
 obtain⟨h1,h2⟩:=Bx c l (gY p room) []
 rw[aa7 h h2,h1]
 exact⟨rfl,rfl⟩
theorem tT(c:Int):∀(l:List aS) (m:gN),fW c m (fW c m l).2=fW c m l
 | [],m=>rfl
 | q::r,m=>by
  by_cases h1:q.kind=3/\c<=m.bZ
  .have e:fW c m (q::r)=fW c m r:=by rw[fW,ew h1]
   rw[e];exact tT c r m
  by_cases h2:(n8 m q).2.2≠0
  .have e:fW c m (q::r)=fW c m r:=by rw[fW,ej h1,ew h2,Tu h2]
   rw[e];exact tT c r m
  .have e:∀s,fW c m (q::s)=((fW c (n8 m q).1 s).1,q::(fW c (n8 m q).1 s).2):=λs=>by rw[fW,ej h1,ej h2]
   rw[e]
   show fW c m (q::(fW c (n8 m q).1 r).2)=_
   rw[e,tT c r]
theorem vf(c:Int):∀(l:List aS) (m:gN),(fW c m l).2.Sublist l
 | [],m=>List.Sublist.refl _
 | q::r,m=>by
  unfold fW
  split
  .exact(vf c r m).cons q
  .split
   .exact(vf c r _).cons q
   .exact(vf c r _).cons₂ q
theorem tU{p:cE}{room c:Int}{l:List aS}(h:eO p room c≠0):dV p room c l=([],zE,eO p room c):=by unfold dV;rw[ew h]
theorem vM{p:cE}{room c:Int}{l:List aS}(h:eO p room c=0):dV p room c l=((fW c (gY p room) l).2,xQ (fW c (gY p room) l).1,0):=by unfold dV;rw[ej (by rw[h];decide)]
def yu{p:cE}{room c:Int}{l:List aS}:(dV p room c l).1.Sublist l:=by
 unfold dV;split
 .exact List.nil_sublist _
 exact vf _ _ _
def Ip{p:cE}{room c:Int}{l:List aS}:(dV p room c l).1.length<=l.length:=yu.length_le
def py(a b:aS):Bool:=decide (a.kind=b.kind/\a.t=b.t)
def pA(D:List aS->List aS×aS):Nat->List aS->aS->Nat->Bool->List aS×aS×Bool
 | 0,s,e,_,ch=>(s,e,ch)
 | n+1,s,e,k,ch=>if k<s.length then(if py (D (s.eraseIdx k)).2 e=true then pA D n (D (s.eraseIdx k)).1 (D (s.eraseIdx k)).2 k true else pA D n s e (k+1) ch)else(s,e,ch)
def ur(D:List aS->List aS×aS):Nat->List aS->aS->List aS×aS
 | 0,s,e=>(s,e)
 | n+1,s,e=>if (pA D (s.length+1) s e 0 false).2.2=true then ur D n (pA D (s.length+1) s e 0 false).1 (pA D (s.length+1) s e 0 false).2.1 else((pA D (s.length+1) s e 0 false).1,(pA D (s.length+1) s e 0 false).2.1)
def je(p:cE)(room c:Int)(s:List aS):List aS×aS:=((dV p room c s).1,(dV p room c s).2.1)
def qd(p:cE)(room c:Int)(l:List aS):List aS×aS×Int:=
 if (dV p room c l).2.2≠0 then([],zE,(dV p room c l).2.2)
 else if (dV p room c l).1.length≠l.length\/Q2 (dV p room c l).2.1=false then([],zE,13)
 else((ur (je p room c) ((dV p room c l).1.length+1) (dV p room c l).1 (dV p room c l).2.1).1,(ur (je p room c) ((dV p room c l).1.length+1) (dV p room c l).1 (dV p room c l).2.1).2,0)
section
variable {D:List aS->List aS×aS}(hD:∀s,(D s).1.length<=s.length)
theorem yv{s:List aS}{k:Nat}(h:k<s.length):(s.eraseIdx k).length+1=s.length:=by rw[List.length_eraseIdx_of_lt h];omega
include hD in
theorem vN:∀(n u:Nat) (s:List aS) (e:aS) (k:Nat) (ch:Bool),s.length<n+k->s.length<u+k->pA D n s e k ch=pA D u s e k ch
 | 0,0,s,e,k,ch,h,B=>rfl
 | 0,u+1,s,e,k,ch,h,B=>by rw[pA,pA,ej cK]
 | n+1,0,s,e,k,ch,h,B=>by rw[pA,pA,ej cK]
 | n+1,u+1,s,e,k,ch,h,B=>by
  rw[pA,pA]
  split
  .rename_i h1
   have h2:=hD (s.eraseIdx k)
   have h3:=yv h1
   split
   .exact vN n u _ _ _ _ cK cK
   .exact vN n u _ _ _ _ cK cK
  .rfl
def nh(D:List aS->List aS×aS)(s:List aS)(e:aS)(k:Nat)(ch:Bool):List aS×aS×Bool:=pA D (s.length+1) s e k ch
include hD in
theorem Iq{s:List aS}{e:aS}{k:Nat}{ch:Bool}(h:k<s.length)(h2:py (D (s.eraseIdx k)).2 e=true):nh D s e k ch=nh D (D (s.eraseIdx k)).1 (D (s.eraseIdx k)).2 k true:=by
 have h3:=hD (s.eraseIdx k)
 have h4:=yv h
 unfold nh
 rw[pA,ew h,ew h2]
 exact vN hD _ _ _ _ _ _ cK cK
include hD in
theorem N1{s:List aS}{e:aS}{k:Nat}{ch:Bool}(h:k<s.length)(h2:¬ py (D (s.eraseIdx k)).2 e=true):nh D s e k ch=nh D s e (k+1) ch:=by
 unfold nh
 conv=>lhs;rw[pA,ew h,ej h2]
 exact vN hD _ _ _ _ _ _ cK cK
theorem Cu{s:List aS}{e:aS}{k:Nat}{ch:Bool}(h:¬ k<s.length):nh D s e k ch=(s,e,ch):=by
 unfold nh;rw[pA,ej h]
include hD in
theorem vg:∀(n:Nat) (s:List aS) (e:aS) (k:Nat) (ch:Bool),s.length<n+k->(nh D s e k ch).1.length<=s.length/\(ch=false->(nh D s e k ch).2.2=true->(nh D s e k ch).1.length<s.length)
 | 0,s,e,k,ch,h=>by rw[Cu cK];exact⟨o6 _,λh1 h2=>by rw[h1]at h2;cases h2⟩
 | n+1,s,e,k,ch,h=>by
  by_cases h1:k<s.length
  .have h3:=hD (s.eraseIdx k)
   have h4:=yv h1
   by_cases h2:py (D (s.eraseIdx k)).2 e=true
   .rw[Iq hD h1 h2]
    have:=vg n (D (s.eraseIdx k)).1 (D (s.eraseIdx k)).2 k true cK
    exact⟨cK,λ_ _=>cK⟩
   .rw[N1 hD h1 h2]
    exact vg n s e (k+1) ch cK
  .rw[Cu h1];exact⟨o6 _,λh1 h2=>by rw[h1]at h2;cases h2⟩
def vO(D:List aS->List aS×aS)(s:List aS)(e:aS):List aS×aS:=ur D (s.length+1) s e
include hD in
theorem CS:∀(n u:Nat) (s:List aS) (e:aS),s.length<n->s.length<u->ur D n s e=ur D u s e
 | 0,_,s,e,h,_=>absurd h (M9 _)
 | _+1,0,s,e,_,h=>absurd h (M9 _)
 | n+1,u+1,s,e,h,B=>by
  rw[ur,ur]
  split
  .rename_i h1
   have:=(vg hD (s.length+1) s e 0 false cK).2 rfl h1
   unfold nh at this
   exact CS n u _ _ cK cK
  .rfl
include hD in
theorem Vm{s:List aS}{e:aS}(h:(nh D s e 0 false).2.2=true):vO D s e=vO D (nh D s e 0 false).1 (nh D s e 0 false).2.1:=by
 have h2:=(vg hD (s.length+1) s e 0 false cK).2 rfl h
 unfold vO
 conv=>lhs;rw[ur]
 unfold nh at h h2 |-
 rw[ew h]
 exact CS hD _ _ _ _ cK cK
theorem Q3{s:List aS}{e:aS}(h:(nh D s e 0 false).2.2=false):vO D s e=((nh D s e 0 false).1,(nh D s e 0 false).2.1):=by
 unfold vO
 rw[ur]
 unfold nh at h |-
 rw[ej (by rw[h];decide)]
end
def wh{α:Type}(l:List α)(k:Int):List α:=if k<0\/(l.length:Int)<=k then l else l.eraseIdx k.toNat
def alC{α:Type}{l:List α}{k:Nat}(h:k<l.length):wh l (k:Int)=l.eraseIdx k:=by unfold wh;rw[ej cK,qa]
def Kb{α:Type}(l:List α)(k:Int):(wh l k).length<=l.length:=by
 unfold wh;split
 .exact o6 _
 exact List.length_eraseIdx_le l _
def Kc{α:Type}{l:List α}{k:Int}{x:α}(h:x∈wh l k):x∈l:=by
 unfold wh at h;split at h
 .exact h
 exact MZ h
theorem Tv{α:Type}{l:List α}{k:Int}(u:0<=k)(h1:k<l.length):l.take k.toNat++l.drop (k+1).toNat=wh l k:=by
 unfold wh
 rw[ej cK,wi,show(k+1).toNat=k.toNat+1 from cK]
def Q4{α σ:Type}[Flat σ][Deep α σ]{w:World}{ts:List σ}{xs:List α}{k:Int}(h:iq ts xs w):iq (wh ts k) (wh xs k) w:=by
 have u:ts.length=xs.length:=h.1
 unfold wh
 rw[u]
 split
 .exact h
 rename_i c
 rw[wi,wi]
 exact(h.take _).append (h.drop _)
def C98(sv:Value)(xs:List aJ)(w:World)(B:dC (λ_=>True) w sv xs)(J:xs.length<=1000000):CR 98 [sv] w (λv w'=>lh (bH v xs) w w'):=by
 have u:=St.start w;refine fg Tryz.func98 ?_;refine Ha Tryz.underlying39 (B.ext u.aG) (λp E=>aY (λI=>?_) λ_=>bD ([]:List aJ) u gg rfl rfl (dL rfl) λ_ _ u=>bJ u gg (B.ext u.aG) (by simp;omega) ee λ_ _ u=>u.fresh);have G:=E I;subst G;exact(u.eL (α:=aJ)).fresh
def C30(K:hM)(lv:Value)(ts:List aJ)(k:Int)(w:World)(W:∀w',Ext w w'->K w')(M:∀w,K w->dC (λ_=>True) w lv ts)(Y:ts.length<=1000000):CR 30 [lv,hZ k] w (λv w'=>lh (eD λw=>K w->dC (λ_=>True) w v (wh ts k)) w w'):=by
 have B:=M _ (W _ (Ext.refl _));have u:=St.start w;refine oM Tryz.func30 (pl:=P30) ?_;refine⟨λU w'=>U=.bool (decide (k<0\/(ts.length:Int)<=k))/\w'=w,?_,?_⟩
 .exact aR (aC (λc=>⟨vb (ez (.inl c)).symm,rfl⟩) λ_=>aK gg (B.ext u.aG) (cR ⟨vb (ga.2 cK),rfl⟩))
 rintro _ _ ⟨rfl,rfl⟩ _;refine aC (λc=>?_) (λc=>?_)
 .refine dY azv u (C98 lv ts _ (B.ext u.aG) Y) (λE _ Z u=>?_);have e:wh ts k=ts:=by unfold wh;rw[ew c]
  rw[e];exact(u.freeze.dN (Ψ:=λw=>K w->dC (λ_=>True) w E ts) λ_ h _=>h).fresh
 refine abc gg (B.ext u.aG) cK cK (λa I=>aN cK (FA gg (B.ext u.aG) cK cK λV G=>have u:=u.drew;N0 u gg (I _ _ (B.ext u.aG)) (G _ _ (B.ext u.aG)) (by rw[l0,qb];omega) ee λv _ J=>?_));rw[Tv cK cK]at J
 rcases J with u|⟨O,rfl,rfl⟩
 .exact(u.freeze.dN (Ψ:=λw=>K w->dC (λ_=>True) w v (wh ts k)) λ_ h _=>h).fresh
 refine(u.fu (Φ:=λw=>K w->dC (λ_=>True) w _ (wh ts k)) λw h=>?_).fresh;rw[<- Tv cK cK,O,pL];exact I _ _ (M _ h)
def C32(a:aS)(I:aJ)(b:aS)(J:aJ)(w:World)(E:mh w I a)(hb:mh w J b):CR 32 [ia I,ia J] w (λv w'=>v=.bool (py a b)/\Ext w w'):=by
 obtain⟨G,rfl,E⟩:=E;obtain⟨M,rfl,hb⟩:=hb;have u:=St.start w;refine fg Tryz.func32 ?_;refine cI (x:=(⟨a.kind,a.t,a.i,G⟩:aJ)) u (λb2 _ u=>cI (x:=(⟨b.kind,b.t,b.i,M⟩:aJ)) u λb3 _ u=>?_);refine⟨λO w'=>O=.bool (py a b)/\St w aZ [bY b3 (j0 (⟨b.kind,b.t,b.i,M⟩:aJ)),bY b2 (j0 (⟨a.kind,a.t,a.i,G⟩:aJ))] w',?_,?_⟩
 .exact aA lF (aB (v:=hZ a.kind) bM u.p1.hb rfl (aA lF (aB (v:=hZ b.kind) bM u.hb rfl (aH (aC (λB=>aA tn (aB (v:=hZ a.t) bM u.p1.hb rfl (aA tn (aB (v:=hZ b.t) bM u.hb rfl (aH ⟨vb (ga.2 ⟨λh=>⟨B,h⟩,λh=>h.2⟩),u⟩))))) λB=>⟨vb (fN λh=>B h.1).symm,u⟩)))))
 rintro _ _ ⟨rfl,u⟩ _;exact⟨rfl,u.drop.drop.aG⟩
variable (w:World) (K:Value->hM)
def S27(p0 nf J l3:Value):Prop:=
 qZ hH (zx 27 p0) w λp4 a=>aL 63 a λb c=>lA 27 p4 c λd=>cF 12 [d,nf] c λe f=>xT e 0 λg=>xT e 1 λh=>bB .neq 31 h (i 0) λj=>cV j (eP hH (l4 63 [].toArray) λk=>
 sA 63 b k f λl=>lA 63 b l λr=>K (.tuple #[(.slice none 0 0),r,h]) l) (eT (λK1=>bB .lss 3 J (i 0) λn=>cV n (K1 tt f) (bB .gtr 3 J (i 8) λo=>K1 o f))
 (λp q=>∀_:Env,
 cV p (eP hH (l4 63 [].toArray) λs=>sA 63 b s q λt=>lA 63 b t λGj=>K (.tuple #[(.slice none 0 0),Gj,(i 1)]) t) (lN 39 l3 λu=>oq (λK2 G v x=>∀_:Env,
 bA .lss 3 v u λy=>cV y (eT (λO=>iA 39 l3 v λz=>lA 50 z x λaa=>aL 50 x λB ac=>sA 50 B aa ac λU=>eT (λK4=>fA 50 B 0 λae=>lA 3 ae U λaf=>
 bB .eql 3 af (i 3) λag=>cV ag (cF 68 [g] U λah ai=>eP hH (aaw 114 ah 0) λaj=>bA .geq 3 aj J λak=>K4 ak ai) (K4 ff U)) (λal V=>∀_:Env,
 cV al (O G V) (lA 50 B V λan=>cF 24 [g,an] V λZ ap=>xT Z 0 λaq=>xT Z 1 λar=>aL 56 ap λW au=>sA 56 W aq au λY=>bB .neq 31 ar (i 0) λaw=>
 cV aw (O G Y) (fA 50 B 3 λax=>lA 41 ax Y λay=>cF 83 [ay] Y λaz a0=>fA 50 B 3 λa1=>sA 41 a1 az a0 λa2=>lA 50 B a2 λa3=>bS 39 1 [(0,a3)] a2 λa4 a5=>
 aP 39 G a4 a5 λa6 a7=>O a6 a7)))) (λM a8=>∀_:Env,
 bB .add 3 v (i 1) λa9=>K2 M a9 a8)) (lA 27 p4 x λba=>cF 40 [ba,nf,J,G] x λI bc=>xT I 0 λbd=>xT I 1 λ_=>xT I 2 λ_=>xT I 3 λ_=>
 aL 63 bc λE be=>sA 63 E bd be λbf=>lA 63 E (drew bf) λbg=>sA 63 b bg (drew bf) λbh=>lA 63 b bh λKG=>K (.tuple #[G,KG,(i 0)]) bh)) λK2=>K2 (.slice none 0 0) (i 0) q)))
def P27:dI:=λi=>match i with
 | 17=>.run 0 5
 | _=>.nil
theorem alD(p0 B E u:Value)(h:S27 w K p0 B E u):CR 27 [p0,B,E,u] w K:=
 qm 86 P27 1792 [.tmp 8,.cell 9 63,.tmp 10] Tryz.func27 h
theorem N3:PL 27:=dK Tryz.func27
end Go.Proofs.YtpdlpabnlkofmaaGreatDoor
namespace Go.Proofs.YtpdlpabnlkofmaaGreatDoor
open Go.Fw
def C27(K:hM)(p:cE)(pv:bP)(room c:Int)(lv:Value)(l:List aS)(w:World)(E:∀w',Ext w w'->K w')(hp:Io K pv p)(hz:PZ p)(hl:F8 K lv l)(BC:l.length<=1000)(Ka:∀q∈l,q.cut.length<=1000) :
  CR 27 [ia pv,hZ room,hZ c,lv] w (λv w'=>∃(ov:Value) (ev:aJ),v=.tuple #[ov,ia ev,hZ (dV p room c l).2.2]/\lh (eD λw=>DL w ov (dV p room c l).1/\mh w ev (dV p room c l).2.1) w w'):=by
 have u:=St.start w;refine alD _ _ _ _ _ _ ?_;unfold S27;refine cI (x:=pv) u (λb4 _ u=>aM u gQ λb9 _ u=>have u:=u.enc (cs':=j0 (⟨0,0,0,bX⟩:aJ)) rfl;aD er u.p1.At (dO aq5 (C12 K p pv room _ (λ_ e=>E _ (u.aG.then e)) hp hz) ?_));rintro v20 w3 (⟨h1,rfl,he⟩|⟨U,h1,rfl,he⟩|⟨U,hr,b,X,rfl,cL⟩)
 .have u:=u.ext he;refine aO rfl (aO rfl (bV (aC (λ_=>?_) λh=>absurd h1 h)));have e:eO p room c=fm p:=by unfold eO;rw[ew h1]
  refine pop qY (aI (x:=(⟨0,0,0,bX⟩:aJ)) u eX rfl rfl λw4 u=>aD (x:=(⟨0,0,0,bX⟩:aJ)) eX u.At ?_);rw[tU (by rw[e];exact h1),e];exact⟨_,_,rfl,(u.drop.drop.fu (Φ:=λw=>DL w (.slice none 0 0) []/\mh w (⟨0,0,0,bX⟩:aJ) zE) λw=>⟨DL.nil w,wg w⟩).fresh⟩
 .have u:=u.ext he;refine aO rfl (aO rfl (bV (aC (λ_=>?_) λh=>absurd (by decide:(1:Int)≠0) h)));have e:eO p room c=1:=by unfold eO;rw[ej (by rw[U];decide),ew h1]
  refine pop qY (aI (x:=(⟨0,0,0,bX⟩:aJ)) u eX rfl rfl λw4 u=>aD (x:=(⟨0,0,0,bX⟩:aJ)) eX u.At ?_);rw[tU (by rw[e];decide),e];exact⟨_,_,rfl,(u.drop.drop.fu (Φ:=λw=>DL w (.slice none 0 0) []/\mh w (⟨0,0,0,bX⟩:aJ) zE) λw=>⟨DL.nil w,wg w⟩).fresh⟩
 have zX:=vK U;have u:=(u.made cL).split;refine aO rfl (aO rfl (bV (aC (λh=>absurd rfl h) λ_=>?_)));refine⟨λjv w'=>jv=.bool (decide (c<0\/8<c))/\w'=w3,?_,?_⟩
 .exact aR (aC (λh=>⟨vb (ez (.inl h)).symm,rfl⟩) λ_=>cO ⟨vb (ga.2 cK),rfl⟩)
 rintro _ _ ⟨rfl,rfl⟩ _;refine aC (λh2=>?_) (λh2=>?_)
 .have e:eO p room c=1:=by unfold eO;rw[ej (by rw[U];decide),ej cK,ew h2]
  refine pop qY (aI (x:=(⟨0,0,0,bX⟩:aJ)) u.p2 eX rfl rfl λ_ u=>aD (x:=(⟨0,0,0,bX⟩:aJ)) eX u.At ?_);rw[tU (by rw[e];decide),e];exact⟨_,_,rfl,(u.drop.drop.drop.drop.fu (Φ:=λw=>DL w (.slice none 0 0) []/\mh w (⟨0,0,0,bX⟩:aJ) zE) λw=>⟨DL.nil w,wg w⟩).fresh⟩
 have VI:eO p room c=0:=by unfold eO;rw[ej (by rw[U];decide),ej cK,ej h2]
 obtain⟨ts,zY⟩:=hl;have hn:ts.length=l.length:=(zY _ (E _ u.aG)).2.1;refine aK gg (zY _ (E _ u.aG)).1 ?_
 refine⟨λmm o y w'=>∃(k:Nat) (m:gN) (out:List aS),y=hZ (k:Int)/\mm=ts.length-k/\k<=l.length/\out.length<=k/\wz p k m/\m.mem.dU=eW p/\(fW c (gY p room) l)=((fW c m (l.drop k)).1,out++(fW c m (l.drop k)).2)/\St w aZ [fU o out,gp (λw=>K w/\X w) b m,eD X,bY b9 (j0 (⟨0,0,0,bX⟩:aJ)),bY b4 (j0 pv)] w',
  ⟨_,0,gY p room,[],rfl,rfl,l1 _,o6 _,wz.new hz zX hr,rfl,rfl,St.G9 ((u.fu (Φ:=iq ([]:List aJ) ([]:List aS)) λ_=>iq.nil).eL (α:=aJ))⟩,?_⟩
 rintro mm ov _ w7 ⟨k,m,out,rfl,rfl,hk,ho,G,Df,B,u⟩ _;refine aR (aC (λc1=>?_) λc1=>?_);rotate_left
 .rw[D7 cK]at B;have B:(fW c (gY p room) l)=(m,out):=B.trans (by show(m,out++[])=_;rw[pL]);obtain⟨r1,r2⟩:=Ga VI l;rw[B]at r1 r2;obtain⟨F,u,hX⟩:=u.mX.HG;have VA:F8 (λw'=>K w'/\nO F w7 w') ov out:=(F8.of hX).mono λ_ h=>h.2;have Q5:out.Sublist l:=by have:=vf c l (gY p room);rw[B]at this;exact this
  refine aD er u.p4.At (dO azp (C40 (λw'=>K w'/\nO F w7 w') p pv room c ov out _ (λ_ e=>⟨E _ (u.aG.then e),(u.ext e).eD⟩) (hp.mono λ_ h=>h.1) hz VA cK λq W=>Ka q (Q5.subset W)) ?_);rintro _ w8 ⟨ev,ov2,rfl,cL⟩;have u:=(u.made cL).split;refine aO rfl (aO rfl (aO rfl (aO rfl (aM u gQ λb18 w9 u=>aI (x:=ev) u eX rfl rfl λw10 u=>have u:=u.drew;aD (x:=ev) eX u.At (aI (x:=ev) u.p6 eX rfl rfl λw11 u=>aD (x:=ev) eX u.At ?_)))));rw[vM VI,B];have u:=u.drop.drop.p1.drop.gR.p1.drop.p1.drop.p1.drop.dN (Ψ:=λw=>DL w ov out/\mh w ev (xQ m)) (λ_ h=>⟨hX _ h.2,by rw[<- r1];exact h.1⟩)
  exact⟨ov,ev,rfl,u.fresh⟩
 obtain⟨q,W⟩:=gx l (i:=k) cK;obtain⟨tq,Ts⟩:=gx ts (i:=((k:Nat):Int).toNat) cK;have V:∀w',K w'->mh w' tq q:=λw' h=>(zY w' h).2.2 k tq q Ts W;obtain⟨M,rfl,_⟩:=V _ (E _ u.aG)
 have Y:∀w',K w'->dC (λ_=>True) w' (ia M) q.cut:=λw' h=>by
  obtain⟨gc2,e,h3⟩:=V w' h;cases e
  exact DL.flat h3
 have hqc:=Ka q (kE W);rw[zb W]at B;have rp:=G.mb.mono (b:=1000000) cK;have C1:=G.cr;refine⟨λo' w'=>∃(Z:gN) (J:List aS),J.length<=k+1/\wz p (k+1) Z/\Z.mem.dU=eW p/\(fW c (gY p room) l)=((fW c Z (l.drop (k+1))).1,J++(fW c Z (l.drop (k+1))).2)/\St w aZ [fU o' J,gp (λw=>K w/\X w) b Z,eD X,bY b9 (j0 (⟨0,0,0,bX⟩:aJ)),bY b4 (j0 pv)] w',?_,?_⟩;rotate_left
 .rintro o2 w8 ⟨m2,azw,h1,h2,h3,h4,u⟩ wA;exact aN cK ⟨ts.length-(k+1),cK,k+1,m2,azw,rfl,rfl,cK,h1,h2,h3,h4,u⟩
 refine aQ gg (zY _ (E _ u.aG)).1 cK Ts (λq37 h37=>aD kF h37 (aM u BQ λb15 w8 u=>aI (x:=(⟨q.kind,q.t,q.i,M⟩:aJ)) u kF rfl rfl λw9 u=>?_));refine⟨λjv w'=>jv=.bool (decide (q.kind=3/\c<=m.bZ))/\St w aZ [bY b15 (j0 (⟨q.kind,q.t,q.i,M⟩:aJ)),fU ov out,gp (λw=>K w/\X w) b m,eD X,bY b9 (j0 (⟨0,0,0,bX⟩:aJ)),bY b4 (j0 pv)] w',?_,?_⟩
 .exact aA mW (aB (v:=hZ q.kind) bM u.hb rfl (aH (aC (λI=>aV ajE u (C68 (λw=>K w/\X w) b m _ u.p2.has (λ_ e=>⟨E _ (u.aG.then e),(u.ext e).p3.eD⟩) G.ok) λ_ _ u=>pop (ahj (iU m)) (cR ⟨vb (ga.2 ⟨λh=>⟨I,h⟩,λh=>h.2⟩),u⟩)) λI=>⟨vb (fN λh=>I h.1).symm,u⟩)))
 rintro _ w10 ⟨rfl,u⟩ wA;refine aC (λI=>?_) (λI=>?_)
 .rw[fW,ew I]at B;exact⟨m,out,cK,G.mono cK,Df,B,u.drop⟩
 rw[fW,ej I]at B;have Gb:=G.step (q:=q) zX;have O:=(Q0 G.ok q).trans Df;refine aD (x:=(⟨q.kind,q.t,q.i,M⟩:aJ)) kF u.At (bF aq3 u.p2 (H':=λ_=>gp (λw=>K w/\X w) b (n8 m q).1) (Φ:=λv _=>v=.tuple #[ia (n8 m q).2.1,hZ (n8 m q).2.2]) (λF2 ef dW=>?_) ?_)
 .exact C24 (λw=>K w/\X w) b m q M F2 _ ef (λw' hc=>⟨E _ (dW w' hc).aG,(dW w' hc).p2.eD⟩) G.ok (G.pr▸zX) rp cK (λw' hc=>Y _ (E _ (dW w' hc).aG)) hqc
 rintro _ w11 rfl u;refine aO rfl (aO rfl (aM u mu λb16 _ u=>aI (x:=(n8 m q).2.1) u fj rfl rfl λ_ u=>bV (aC (λc3=>?_) λc3=>?_)))
 .rw[ew c3]at B;exact⟨_,out,cK,Gb,O,B,u.drop.p1.drop.p1⟩
 rw[ej c3]at B;have u:=u.drop.p1;refine aA ma (aB (v:=ia (M:SV)) eg u.hb rfl (dY OA u (C83 _ q.cut _ (Y _ (E _ u.aG)) cK) λx67 _ cL u=>?_));obtain⟨sv,rfl⟩:=u.fJ;exact aA ma (aT u.p1 eg (dL rfl) rfl λ_ u=>have u:=u.enc (cs':=j0 (⟨q.kind,q.t,q.i,sv⟩:aJ)) rfl;aD (x:=(⟨q.kind,q.t,q.i,sv⟩:aJ)) kF u.At (have u:=u.p1.freeze.dN (Ψ:=λw=>mh w (⟨q.kind,q.t,q.i,sv⟩:aJ) q) (λ_ h=>⟨sv,rfl,DL.j1 h⟩);gh (x:=q) (s:=(⟨q.kind,q.t,q.i,sv⟩:aJ)) u gg ee λ_ _ u=>gi u.p3 gg (by rw[mv];omega) ee λ_ _ u=>⟨_,out++[q],by rw[la,mv];omega,Gb,O,by rw[B,List.append_assoc];rfl,u.p1.drop⟩))
variable (w:World) (K:Value->hM)
def P35:dI:=λi=>match i with
 | 15=>.run 0 5
 | _=>.nil
def azx:dI:=λi=>match i with
 | 1=>(.op 0 [] (.op 1 [] (.op 2 [] (.op 3 [] (.op 4 [] (.alt 5 [0,1,2] (.alt 6 [] (.of [(7,[]),(8,[]),(9,[]),(10,[]),(11,[0,1,2,3]),(12,[]),(13,[]),(14,[])]) (.alt 11 [0,1,2,3] (.of [(6,[]),(7,[]),(8,[]),(9,[]),(10,[]),(12,[]),(13,[]),(14,[])]) .stop)) (.alt 11 [0,1,2,3] (.of [(5,[0,1,2]),(6,[]),(7,[]),(8,[]),(9,[]),(10,[]),(12,[]),(13,[]),(14,[])]) .stop)))))))
 | 4=>(.of [(0,[]),(1,[]),(2,[1]),(3,[])])
 | _=>.nil
theorem afb:PL 35:=dK Tryz.func35
theorem asC:PL 100:=dK Tryz.func100
end Go.Proofs.YtpdlpabnlkofmaaGreatDoor
namespace Go.Proofs.YtpdlpabnlkofmaaGreatDoor
open Go.Fw
theorem abd{p:cE}{room c:Int}{l:List aS}(h:(dV p room c l).2.2≠0):qd p room c l=([],zE,(dV p room c l).2.2):=by unfold qd;rw[ew h]
theorem abe{p:cE}{room c:Int}{l:List aS}(h:(dV p room c l).2.2=0)(h2:(dV p room c l).1.length≠l.length\/Q2 (dV p room c l).2.1=false):qd p room c l=([],zE,13):=by unfold qd;rw[ej (by rw[h];decide),ew h2]
theorem abf{p:cE}{room c:Int}{l:List aS}(h:(dV p room c l).2.2=0)(h2:¬ ((dV p room c l).1.length≠l.length\/Q2 (dV p room c l).2.1=false)):qd p room c l=((vO (je p room c) (dV p room c l).1 (dV p room c l).2.1).1,(vO (je p room c) (dV p room c l).1 (dV p room c l).2.1).2,0):=by unfold qd;rw[ej (by rw[h];decide),ej h2];rfl
theorem sW(p:cE)(room c:Int)(s:List aS):(je p room c s).1.length<=s.length:=Ip
def Oj(bs be:Nat)(s:List aS)(e:aS):HP:=pK λsv:SV=>pK λev:aJ=>sep (bY bs [ia sv]) (sep (bY be (j0 ev)) (eD λw=>DL w (ia sv) s/\mh w ev e))
section
variable {w0 w:World}{A:Nat->Prop}{L:List HP}{bs be:Nat}{s:List aS}{e:aS}
theorem Oj.open(u:St w0 A (Oj bs be s e::L) w):∃(sv:SV) (ev:aJ),St w0 A (bY bs [ia sv]::bY be (j0 ev)::Fw.eD (λw=>DL w (ia sv) s/\mh w ev e)::L) w:=by
 obtain⟨sv,u⟩:=u.eh
 obtain⟨ev,u⟩:=u.eh
 have u:=u.split.p1.split
 exact⟨sv,ev,u.p2⟩
theorem Oj.shut{sv:SV}{ev:aJ}(u:St w0 A (bY bs [ia sv]::bY be (j0 ev)::Fw.eD (λw=>DL w (ia sv) s/\mh w ev e)::L) w):St w0 A (Oj bs be s e::L) w:=by
 have u:=St.join u.p2.p2
 have u:=St.join u.p1
 exact St.ek sv (St.ek ev u)
end
def C100(K:hM)(p:cE)(pv:bP)(room c:Int)(bp br bc bs be k:Nat)(s:List aS)(e:aS)(F:Nat->Prop)(w:World)(hF:(Oj bs be s e).p w F)(E:∀w',gv F w w'->mT w' bp (j0 pv))(G:∀w',gv F w w'->mT w' br [hZ room])(I:∀w',gv F w w'->mT w' bc [hZ c])(W:∀w1,gv F w w1->∀w2,Ext w1 w2->K w2)(hp:Io K pv p)(hz:PZ p)(BC:s.length<=1000)(Ka:∀q∈s,q.cut.length<=1000) :
  CR 100 [hZ (k:Int),.pointer (some ⟨bp,0,none⟩),.pointer (some ⟨br,0,none⟩),.pointer (some ⟨bc,0,none⟩),.pointer (some ⟨bs,0,none⟩),.pointer (some ⟨be,0,none⟩)] w (λv w'=>v=.bool (py ((je p room c) (wh s (k:Int))).2 e)/\mR F (Oj bs be (if py ((je p room c) (wh s (k:Int))).2 e=true then((je p room c) (wh s (k:Int))).1 else s) (if py ((je p room c) (wh s (k:Int))).2 e=true then((je p room c) (wh s (k:Int))).2 else e)) w w'):=by
 obtain⟨sv,ev,u⟩:=Oj.open (St.begin hF);refine oM Tryz.func100 (pl:=azx) ?_;obtain⟨M,u,hX⟩:=u.p2.HG;obtain⟨J,Z⟩:∃J,J=w:=⟨_,rfl⟩;rw[show nO M w=nO M J by rw[Z]]at u;rw[<- Z]at hX;obtain⟨ts,Y⟩:F8 (nO M J) (ia sv) s:=F8.of λw' h=>(hX w' h).1;have hn:ts.length=s.length:=(Y _ u.eD).2.1;refine⟨λtv xv w'=>∃(O:Nat) (ov:Value) (B:aJ),tv=ov/\xv=.pointer (some ⟨O,0,none⟩)/\St w F [bY O (j0 B),eD (λw=>DL w ov ((je p room c) (wh s (k:Int))).1/\mh w B ((je p room c) (wh s (k:Int))).2),eD (nO M J),bY bs [ia sv],bY be (j0 ev)] w',?_,?_⟩
 .have u:=u.drew;refine qi pv er (E _ u.aG) rfl (bO bM ((G _ u.aG).cell (o:=0) rfl) (bO bM ((I _ u.aG).cell (o:=0) rfl) (aB (v:=ia sv) IN u.p1.hb rfl ⟨dY Vl u (C30 (nO M J) _ ts (k:Int) _ (λ_ e=>(u.ext e).eD) (λw h=>(Y w h).1) cK) (λU _ V u=>⟨jz pv er (E _ u.aG) rfl,⟨aF bM ((G _ u.aG).cell (o:=0) rfl),⟨aF bM ((I _ u.aG).cell (o:=0) rfl),⟨?_,?_,trivial⟩⟩⟩⟩),?_,trivial⟩)))
  .refine dO N3 (C27 (λw'=>K w'/\(nO M J) w'/\((nO M J) w'->dC (λ_=>True) w' U (wh ts (k:Int)))) p pv room c U (wh s (k:Int)) _ (λ_ e=>⟨W _ u.aG _ e,(u.ext e).p1.eD,(u.ext e).eD⟩) (hp.mono λ_ h=>h.1) hz ⟨_,λw' h=>⟨h.2.2 h.2.1,Q4 (Y w' h.2.1).2⟩⟩ (by have:=Kb s (k:Int);omega) λq hq=>Ka q (Kc hq)) ?_;rintro _ _ ⟨ov,B,rfl,V⟩;have u:=u.made V;refine aO rfl (aO rfl (aO rfl (aM u gQ λO _ u=>?_)));refine⟨jz pv er (E _ u.aG) rfl,?_⟩;refine⟨aF bM ((G _ u.aG).cell (o:=0) rfl),?_⟩;refine⟨aF bM ((I _ u.aG).cell (o:=0) rfl),?_⟩
   refine⟨aF IN (u.p4.hb.cell rfl),?_⟩;exact aI (x:=B) u eX rfl rfl (λ_ u=>have u:=u.p2.drop.p4.p4.p4.p4.p4;⟨O,ov,B,rfl,rfl,u⟩)
  .refine aM u gQ (λO _ u=>?_);refine⟨jz pv er (E _ u.aG) rfl,?_⟩;refine⟨aF bM ((G _ u.aG).cell (o:=0) rfl),?_⟩;refine⟨aF bM ((I _ u.aG).cell (o:=0) rfl),?_⟩;refine⟨aF IN (u.p3.hb.cell rfl),?_⟩;refine dO N3 (C27 (λw'=>K w'/\(nO M J) w'/\((nO M J) w'->dC (λ_=>True) w' U (wh ts (k:Int)))) p pv room c U (wh s (k:Int)) _ (λ_ e=>⟨W _ u.aG _ e,(u.ext e).p2.eD,(u.ext e).p1.eD⟩) (hp.mono λ_ h=>h.1) hz ⟨_,λw' h=>⟨h.2.2 h.2.1,Q4 (Y w' h.2.1).2⟩⟩ (by have:=Kb s (k:Int);omega) λq hq=>Ka q (Kc hq)) ?_;rintro _ _ ⟨ov,B,rfl,V⟩;have u:=u.made V
   exact aO rfl (aO rfl (aO rfl (aI (x:=B) u.p1 eX rfl rfl λ_ u=>have u:=u.p2.drop.p4.p4.p4.p4.p4;⟨O,ov,B,rfl,rfl,u⟩)))
  refine aM u gQ (λO _ u=>?_);refine⟨jz pv er (E _ u.aG) rfl,?_⟩;refine⟨aF bM ((G _ u.aG).cell (o:=0) rfl),?_⟩;refine⟨aF bM ((I _ u.aG).cell (o:=0) rfl),?_⟩;refine⟨aF IN (u.p2.hb.cell rfl),?_⟩;refine dY Vl u (C30 (nO M J) _ ts (k:Int) _ (λ_ e=>(u.ext e).p1.eD) (λw h=>(Y w h).1) cK) (λU _ V u=>?_);refine⟨jz pv er (E _ u.aG) rfl,?_⟩;refine⟨aF bM ((G _ u.aG).cell (o:=0) rfl),?_⟩;refine⟨aF bM ((I _ u.aG).cell (o:=0) rfl),?_⟩;refine dO N3 (C27 (λw'=>K w'/\(nO M J) w'/\((nO M J) w'->dC (λ_=>True) w' U (wh ts (k:Int)))) p pv room c U (wh s (k:Int)) _ (λ_ e=>⟨W _ u.aG _ e,(u.ext e).p2.eD,(u.ext e).eD⟩) (hp.mono λ_ h=>h.1) hz ⟨_,λw' h=>⟨h.2.2 h.2.1,Q4 (Y w' h.2.1).2⟩⟩ (by have:=Kb s (k:Int);omega) λq hq=>Ka q (Kc hq)) ?_
  rintro _ _ ⟨ov,B,rfl,V⟩;have u:=u.made V;exact aO rfl (aO rfl (aO rfl (aI (x:=B) u.p2 eX rfl rfl λ_ u=>have u:=u.p2.drop.p4.p4.p4.p4.p4;⟨O,ov,B,rfl,rfl,u⟩)))
 rintro _ _ _ ⟨O,ov,B,rfl,rfl,u⟩ _;obtain⟨V0,VH⟩:=u.p1.eD;have hev:=(hX _ u.p2.eD).2;refine aD (x:=B) eX u.At (aD (x:=ev) eX u.p4.At (aV abb u (C32 _ B e ev _ VH hev) λ_ he u=>bR (aY (λc1=>?_) λc1=>?_)))
 .have c2:py ((je p room c) (wh s (k:Int))).2 e=false:=by simpa using c1
  rw[c2];have u:=u.drop.drop.dN hX;exact⟨rfl,(Oj.shut u.p1.p2.p1).mut⟩
 have c2:py ((je p room c) (wh s (k:Int))).2 e=true:=by simpa using c1
 rw[c2];obtain⟨tw,hrw,_⟩:=V0.open;obtain⟨oa,oc,rfl,_⟩:=id hrw;have u:=u.drew;refine aD (x:=B) eX u.At (aT u.p3 IN (dL rfl) rfl λ_ u=>?_);refine⟨eN eX u.p1.At,?_⟩;exact aI (x:=B) u.p4 eX rfl rfl (λ_ u=>have u:=u.p2.drop.p3.drop;⟨rfl,(Oj.shut (sv:=⟨oa,tw.length,oc⟩) u.p1).mut⟩)
theorem C35(K:hM)(p:cE)(pv:bP)(room c:Int)(lv:Value)(l:List aS)(w:World)(hw:∀w',Ext w w'->K w')(hp:Io K pv p)(hz:PZ p)(hl:F8 K lv l)(BC:l.length<=1000)(Ka:∀q∈l,q.cut.length<=1000) :
  CR 35 [ia pv,hZ room,hZ c,lv] w (λv w'=>∃(ov:Value) (ev:aJ),v=.tuple #[ov,ia ev,hZ (qd p room c l).2.2]/\lh (eD λw=>DL w ov (qd p room c l).1/\mh w ev (qd p room c l).2.1) w w'):=by
 have u:=St.start w;refine oM Tryz.func35 (pl:=P35) ?_;refine cI (x:=pv) u (λb4 w1 u=>cI (x:=room) u λV w2 u=>cI (x:=c) u λb6 _ u=>aM u gQ λb9 _ u=>have u:=u.enc (cs':=j0 (⟨0,0,0,bX⟩:aJ)) rfl;aD er u.p3.At (aB (v:=hZ room) bM u.p2.hb rfl (aB (v:=hZ c) bM u.p1.hb rfl (dO N3 (C27 K p pv room c lv l _ (λ_ e=>hw _ (u.aG.then e)) hp hz hl BC Ka) ?_))));rintro _ _ ⟨ov,ev,rfl,cL⟩;have u:=u.made cL;refine aO rfl (aO rfl (aO rfl ?_));obtain⟨V0,VH⟩:=u.eD;obtain⟨t1,z6,_⟩:=V0.open;obtain⟨oa,oc,rfl,_⟩:=id z6
 refine gC u ahN rfl (λG _ u=>aM u gQ λU _ u=>aT u.p1 IN (dL rfl) rfl λ_ u=>aI (x:=ev) u.p1 eX rfl rfl λ_ u=>bV (aC (λc1=>?_) λc1=>?_))
 .refine pop qY (aI (x:=(⟨0,0,0,bX⟩:aJ)) u.p3 eX rfl rfl λw10 u=>aD (x:=(⟨0,0,0,bX⟩:aJ)) eX u.At ?_);rw[abd c1];exact⟨_,_,rfl,(u.drop.drop.drop.drop.drop.drop.drop.fu (Φ:=λw=>DL w (.slice none 0 0) []/\mh w (⟨0,0,0,bX⟩:aJ) zE) λw=>⟨DL.nil w,wg w⟩).fresh⟩
 have c0:(dV p room c l).2.2=0:=vh.1 c1;obtain⟨V0,VH⟩:=u.p2.eD;obtain⟨t2,Dl,azy⟩:=V0.open;have Dk:t2.length=(dV p room c l).1.length:=azy.1;refine⟨λjv w'=>jv=.bool (decide ((dV p room c l).1.length≠l.length\/Q2 (dV p room c l).2.1=false))/\St w aZ [bY U (j0 ev),bY G [ia (⟨oa,t1.length,oc⟩:SV)],eD (λw=>DL w (.slice oa t1.length oc) (dV p room c l).1/\mh w ev (dV p room c l).2.1),bY b9 (j0 (⟨0,0,0,bX⟩:aJ)),bY b6 (j0 c),bY V (j0 room),bY b4 (j0 pv)] w',?_,?_⟩
 .refine aB (v:=.slice oa t1.length oc) IN u.p1.hb rfl (aK gg Dl ?_);obtain⟨ts,zY⟩:=hl;have hn:ts.length=l.length:=(zY _ (hw _ u.aG)).2.1;refine aK gg (zY _ (hw _ u.aG)).1 (bV (aC (λ_=>⟨vb (ez (.inl cK)).symm,u⟩) λc2=>aD (x:=ev) eX u.At (aV azt u (C99 _ ev _ VH) λw10 he u=>bR ?_)));refine⟨vb ?_,u⟩;cases hb:Q2 (dV p room c l).2.1 with
  | true=>exact(fN λh=>h.elim (λh=>h cK) λh=>by cases h).symm
  | false=>exact(ez (.inr rfl)).symm
 rintro _ _ ⟨rfl,u⟩ _;refine aC (λc2=>?_) (λc2=>?_)
 .refine pop qY (aI (x:=(⟨0,0,0,bX⟩:aJ)) u.p3 eX rfl rfl λ_ u=>aD (x:=(⟨0,0,0,bX⟩:aJ)) eX u.At ?_);rw[abe c0 c2];exact⟨_,_,rfl,(u.drop.drop.drop.drop.drop.drop.drop.fu (Φ:=λw=>DL w (.slice none 0 0) []/\mh w (⟨0,0,0,bX⟩:aJ) zE) λw=>⟨DL.nil w,wg w⟩).fresh⟩
 have hls:=Oj.shut (sv:=⟨oa,t1.length,oc⟩) u.p1
 refine⟨λmm y w'=>∃(s:List aS) (e:aS) (ch:Bool),y=.bool ch/\mm=2*s.length+(if ch=true then 1 else 0)/\(s.length<=l.length/\(∀q∈s,q∈l)/\vO (je p room c) (dV p room c l).1 (dV p room c l).2.1=(if ch=true then vO (je p room c) s e else(s,e)))/\St w aZ [Oj G U s e,bY b9 (j0 (⟨0,0,0,bX⟩:aJ)),bY b6 (j0 c),bY V (j0 room),bY b4 (j0 pv)] w',
  ⟨_,(dV p room c l).1,(dV p room c l).2.1,true,rfl,rfl,⟨Ip,λ_ W=>yu.subset W,rfl⟩,hls⟩,?_⟩
 clear u hls
 rintro mm _ _ ⟨s,e,ch,rfl,rfl,⟨O0,hsm,vP⟩,u⟩ _;refine aY (λc3=>?_) (λc3=>?_)
 .rw[ew c3]at vP;refine⟨λnn y1 y2 w'=>∃(k:Nat) (B:List aS) (I:aS) (E:Bool),y1=.bool E/\y2=hZ (k:Int)/\nn=B.length-k/\(B.length<=l.length/\(∀q∈B,q∈l)/\k<=1000/\nh (je p room c) s e 0 false=nh (je p room c) B I k E)/\St w aZ [Oj G U B I,bY b9 (j0 (⟨0,0,0,bX⟩:aJ)),bY b6 (j0 c),bY V (j0 room),bY b4 (j0 pv)] w',⟨_,0,s,e,false,rfl,rfl,rfl,⟨O0,hsm,l1 _,rfl⟩,u⟩,?_⟩
  clear u
  rintro nn _ _ _ ⟨k,B,I,E,rfl,rfl,rfl,⟨Y,M,hk,O⟩,u⟩ _;obtain⟨sv,Z,u⟩:=Oj.open u;obtain⟨hd3,hd4⟩:=u.p2.eD;obtain⟨t3,Nl,azz⟩:=hd3.open;have hl3:t3.length=B.length:=azz.1;refine aB (v:=ia sv) IN u.hb rfl (aK gg Nl (have u:=Oj.shut u;aR (aC (λc4=>?_) λc4=>?_)))
  .have BV:k<B.length:=cK
   have hwo:wh B (k:Int)=B.eraseIdx k:=alC BV;refine AX (first:=[]) (cap:=[.pointer (some ⟨b4,0,none⟩),.pointer (some ⟨V,0,none⟩),.pointer (some ⟨b6,0,none⟩),.pointer (some ⟨G,0,none⟩),.pointer (some ⟨U,0,none⟩)]) (H':=λ_=>Oj G U (if py ((je p room c) (wh B (k:Int))).2 I=true then((je p room c) (wh B (k:Int))).1 else B) (if py ((je p room c) (wh B (k:Int))).2 I=true then((je p room c) (wh B (k:Int))).2 else I)) (Φ:=λv _=>v=.bool (py ((je p room c) (wh B (k:Int))).2 I)) asC u (λF hF dW=>?_) ?_
   .exact C100 K p pv room c b4 V b6 G U k B I F _ hF (λw' hc=>(dW w' hc).p3.hb) (λw' hc=>(dW w' hc).p2.hb) (λw' hc=>(dW w' hc).p1.hb) (λw1 hc _ e=>hw _ ((dW w1 hc).aG.then e)) hp hz cK (λq W=>Ka q (M q W))
   rintro _ _ rfl u;refine aY (λJ=>?_) (λJ=>?_)
   .rw[ew J,ew J]at u;have Hh:=sW p room c (wh B (k:Int));have YY:=yv BV;rw[hwo]at u J Hh;refine⟨_,?_,k,((je p room c) (B.eraseIdx k)).1,((je p room c) (B.eraseIdx k)).2,true,rfl,rfl,rfl,⟨cK,λq W=>M q (MZ ((yu (l:=B.eraseIdx k)).subset W)),hk,O.trans (Iq (sW p room c) BV J)⟩,u⟩;omega
   rw[ej (by rw[J];decide),ej (by rw[J];decide)]at u;rw[hwo]at J;refine aN cK ?_;refine⟨_,?_,k+1,B,I,E,rfl,rfl,rfl,⟨Y,M,cK,O.trans (N1 (sW p room c) BV (by rw[J];decide))⟩,u⟩;omega
  rw[Cu (D:=(je p room c)) (s:=B) (e:=I) (k:=k) (ch:=E) cK]at O;have oG:=vg (sW p room c) (s.length+1) s e 0 false cK;rw[O]at oG;refine⟨_,?_,B,I,E,rfl,rfl,⟨Y,M,?_⟩,u⟩
  .rw[ew c3];cases E with
   | true=>have:=oG.2 rfl rfl;show 2*B.length+1<_;dsimp only at this;omega
   | false=>have:=oG.1;show 2*B.length+0<_;dsimp only at this;omega
  rw[vP];cases E with
  | true=>rw[ew rfl,Vm (sW p room c) (by rw[O]),O]
  | false=>rw[ej ee,Q3 (by rw[O]),O]
 rw[ej (by rw[c3];decide)]at vP;obtain⟨sv,Z,u⟩:=Oj.open u;have u:=u.drew;refine aB (v:=ia sv) IN u.hb rfl (aD (x:=Z) eX u.p1.At (aI (x:=Z) u.p3 eX rfl rfl λ_ u=>aD (x:=Z) eX u.At ?_));rw[abf c0 c2,vP];have u:=u.drop.drop.drop;exact⟨_,Z,rfl,u.p1.drop.p1.drop.p1.drop.fresh⟩
def Tw(u:Int):pr hH (l4 50 [(0,hZ u)].toArray)=some (.agg [hZ u,hZ 0,hZ 0,.slice none 0 0].toArray):=by kernel_rfl
def N4(u:Int)(G:Int)(E:Option Addr)(B I:Nat):pr hH (l4 63 [(0,hZ u),(1,hZ G),(3,.slice E B I)].toArray)=some (.agg [hZ u,hZ G,hZ 0,.slice E B I].toArray):=by kernel_rfl
def afd(E:Option Addr)(u B:Nat):pr hH (l4 63 [(3,.slice E u B)].toArray)=some (.agg [hZ 0,hZ 0,hZ 0,.slice E u B].toArray):=by kernel_rfl
section
variable {α σ:Type}[Flat σ] [Deep α σ] {w:World}
theorem fO{t:σ}{x:α}{ts:List σ}{xs:List α}(h:mh w t x)(g:iq ts xs w):iq (t::ts) (x::xs) w:=by
 grind[iq]
end
def rK(w:World)(a b c:Int):mh w (⟨a,b,c,bX⟩:aJ) (⟨a,b,c,[]⟩:aS):=⟨_,rfl,DL.nil w⟩
theorem e0(w:World){sv:SV}(a b c:Int){l:List Int}(h:dC (λ_=>True) w (ia sv) l):mh w (⟨a,b,c,sv⟩:aJ) (⟨a,b,c,l⟩:aS):=⟨_,rfl,DL.j1 h⟩
def ahp(t:ByteArray):Bool:=match v8 t with
 | some r=>decide (r.1.length<=5000)&&r.1.all (λx=>decide (0<=x.at_/\x.at_<=1000000/\x.text.size<=1000000))
 | none=>false
def afe{t:ByteArray}(h:ahp t=true):∀l e a,v8 t=some (l,e,a)->jm l:=by
 intro l e a u
 unfold ahp at h
 rw[u]at h
 simp only[Bool.and_eq_true,decide_eq_true_eq,List.all_eq_true]at h
 exact⟨h.1,λx B=>h.2 x B⟩
variable (w:World) (K:Value->hM)
def S34:Prop:=
 cF 65 [(Go.Value.string (kh (#[108,105,110,101,32,97,59,32,116,104,114,101,97,100,32,116,32,123,32,115,116,111,114,101,32,97,32,61,32,49,59,32,99,104,101,99,107,32,48,59,32,125,32,116,104,114,101,97,100,32,117,32,123,32,109,102,101,110,99,101,59,32,125])))] w λa b=>
 xT a 0 λc=>xT a 1 λ_=>xT a 2 λ_=>aL 27 b λp1 d=>sA 27 p1 c d λe=>eP hH (l4 50 [(0,(i 1))].toArray) λf=>eP hH (l4 50 [(0,(i 1)),(1,(i 1))].toArray) λg=>
 eP hH (l4 50 [(0,(i 2))].toArray) λh=>aL 50 e λE j=>aL 50 j λJ k=>aL 50 k λG l=>sA 50 E f l λn=>sA 50 J g n λo=>sA 50 G h o λp=>
 lA 50 J p λq=>lA 50 E p λr=>lA 50 G p λs=>lA 50 E p λt=>bS 39 4 [(0,q),(1,r),(2,s),(3,t)] p λu v=>lA 27 p1 v λx=>cF 35 [x,(i 2),(i 0),u] v λy z=>
 xT y 0 λaa=>xT y 1 λab=>xT y 2 λac=>aL 63 z λM ae=>sA 63 M ab ae λO=>lA 27 p1 O λag=>lA 50 G O λah=>lA 50 E O λai=>lA 50 G O λaj=>
 lA 50 J O λak=>lA 50 J O λal=>bS 39 5 [(0,ah),(1,ai),(2,aj),(3,ak),(4,al)] O λam an=>cF 27 [ag,(i 2),(i 0),am] an λao ap=>xT ao 0 λaq=>
 xT ao 1 λar=>xT ao 2 λasx=>aL 63 ap λU au=>sA 63 U ar au λav=>eT (λK1=>lA 27 p1 (drew av) λW=>eP hH (n4 39 u none (some (i 1)) none) λax=>
 ((cF 35 [W,(i 2),(i 0),ax] (drew av) λay az=>xT ay 0 λ_=>xT ay 1 λa0=>xT ay 2 λa1=>aL 63 az λa2 a3=>kA 27 p1 W a3 (sA 63 a2 a0 a3 λa4=>K1 a1 a4))
 /\((aL 63 (drew av) λa5 a6=>kA 27 p1 W a6 (cF 35 [W,(i 2),(i 0),ax] a6 λa7 a8=>xT a7 0 λ_=>xT a7 1 λa9=>xT a7 2 λba=>sA 63 a5 a9 a8 λbb=>K1 ba bb))
 /\
 True))) (λg16 V=>∀_:Env,
 lA 27 p1 V λbd=>lA 50 G V λbe=>lA 50 E V λbf=>lA 50 E V λbg=>bS 39 3 [(0,be),(1,bf),(2,bg)] V λbh bi=>cF 35 [bd,(i 2),(i 0),bh] bi λbj bk=>
 xT bj 0 λ_=>xT bj 1 λbl=>xT bj 2 λbm=>aL 63 bk λbn bo=>sA 63 bn bl bo λbp=>lA 27 p1 bp λbq=>cF 27 [bq,(i 2),(i 9),(.slice none 0 0)] bp λbr bs=>xT br 0 λ_=>
 xT br 1 λbt=>xT br 2 λbu=>aL 63 bs λbv bw=>sA 63 bv bt bw λbx=>eT (λK2=>lA 50 E (drew bx) λbz=>lA 50 E (drew bx) λb0=>bS 39 2 [(0,bz),(1,b0)] (drew bx) λb1 b2=>
 cF 19 [aa,b1] b2 λb3 b4=>cV b3 (lA 63 M b4 λb5=>bS 41 1 [(0,(i 0))] b4 λb6 b7=>kA 63 M b5 b7 (eP hH (l4 63 [(0,(i 3)),(1,(i 1)),(3,b6)].toArray) λb8=>
 cF 29 [b5,b8] b7 λb9 I=>cV b9 (bB .eql 31 ac (i 0) λcb=>cV cb (lA 50 E I λcc=>lA 50 G I λcd=>lA 50 J I λce=>bS 39 3 [(0,cc),(1,cd),(2,ce)] I λcf cg=>
 cF 19 [aq,cf] cg λch ci=>cV ch (lA 63 U ci λcj=>bS 41 1 [(0,(i 1))] ci λck cl=>kA 63 U cj cl (eP hH (l4 63 [(3,ck)].toArray) λcm=>cF 29 [cj,cm] cl λcn B=>
 cV cn (bB .eql 31 asx (i 0) λcp=>cV cp (bB .eql 31 g16 (i 13) λcq=>cV cq (bB .eql 31 bm (i 13) λcr=>cV cr (bB .eql 31 bu (i 1) λcs=>cV cs (lA 50 J B λY=>
 lA 50 G B λcu=>lA 50 E B λcv=>((cF 30 [u,(i 1)] B λcw cx=>kA 50 J Y cx (kA 50 G cu cx (kA 50 E cv cx (bS 39 3 [(0,Y),(1,cu),(2,cv)] cx λcy cz=>
 cF 19 [cw,cy] cz λc0 c1=>cV c0 (cF 30 [u,(i 4)] c1 λc2 c3=>cF 19 [c2,u] c3 λc4 c5=>cV c4 (lA 63 M c5 λc6=>eP hH (l4 63 [(0,(i 3)),(1,(i 1))].toArray) λc7=>
 cF 32 [c6,c7] c5 λc8 c9=>cV c8 (lA 63 M c9 λda=>lA 63 U c9 λdb=>cF 32 [da,db] c9 λdc dd=>eP hH (Op.unary .not dc) λde=>K2 de dd) (K2 ff c9)) (K2 ff c5)) (
 K2 ff c1)))))
 /\((bS 39 3 [(0,Y),(1,cu),(2,cv)] B λdf dg=>cF 30 [u,(i 1)] dg λdh Z=>kA 50 J Y Z (kA 50 G cu Z (kA 50 E cv Z (cF 19 [dh,df] Z λdj dk=>cV dj (
 cF 30 [u,(i 4)] dk λdl dm=>cF 19 [dl,u] dm λdn dp=>cV dn (lA 63 M dp λdq=>eP hH (l4 63 [(0,(i 3)),(1,(i 1))].toArray) λdr=>cF 32 [dq,dr] dp λds dt=>
 cV ds (lA 63 M dt λdu=>lA 63 U dt λdv=>cF 32 [du,dv] dt λdw dx=>eP hH (Op.unary .not dw) λdy=>K2 dy dx) (K2 ff dt)) (K2 ff dp)) (K2 ff dk)))))
 /\
 True))) ((K2 ff B)
 /\((K2 ff B)
 /\
 True))) ((K2 ff B)
 /\((K2 ff B)
 /\
 True))) ((K2 ff B)
 /\((K2 ff B)
 /\
 True))) ((K2 ff B)
 /\((K2 ff B)
 /\
 True))) ((K2 ff B)
 /\((K2 ff B)
 /\
 True)))) ((K2 ff ci)
 /\((K2 ff ci)
 /\
 True))) ((K2 ff I)
 /\((K2 ff I)
 /\
 True))) ((K2 ff I)
 /\((K2 ff I)
 /\
 True)))) ((K2 ff b4)
 /\((K2 ff b4)
 /\
 True))) (λdz d0=>∀_:Env,
 K dz d0))
def P34:dI:=λi=>match i with
 | 6=>(.op 0 [] (.op 1 [] (.op 2 [] (.alt 3 [] (.of [(4,[]),(5,[]),(6,[]),(7,[]),(8,[0]),(9,[]),(10,[]),(11,[])]) (.alt 8 [0] (.of [(3,[]),(4,[]),(5,[]),(6,[]),(7,[]),(9,[]),(10,[]),(11,[])]) .stop)))))
 | 9=>(.op 0 [] (.op 1 [] (.op 2 [] (.op 3 [] (.op 4 [] (.op 5 [] (.op 6 [] (.op 7 [6] (.op 8 [] (.op 9 [] (.op 10 [] (.op 11 [] (.op 12 [] (.op 13 [] (.op 14 [] (.op 15 [] (.op 16 [] (.op 17 [] (.op 18 [] (.op 19 [] (.op 20 [] (.op 21 [] (.op 22 [] (.op 23 [] (.op 24 [] (.op 25 [24] (.op 26 [] (.op 27 [] (.op 28 [] (.op 29 [] (.op 30 [] (.op 31 [] (.op 32 [] (.op 33 [] (.op 34 [] (.op 35 [] (.op 36 [] (.op 37 [] (.op 38 [] (.op 39 [] (.op 40 [] (.op 41 [] (.op 42 [] (.op 43 [] (.op 44 [] (.op 45 [] (.op 46 [] (.op 48 [] (.op 49 [] (.op 50 [] (.alt 47 [48,49,50] (.of [(51,[]),(52,[]),(53,[]),(54,[]),(55,[]),(57,[]),(56,[]),(58,[]),(59,[]),(60,[]),(61,[]),(62,[]),(63,[]),(64,[]),(65,[]),(66,[]),(67,[]),(68,[]),(69,[]),(70,[]),(71,[])]) (.alt 51 [] (.of [(47,[48,49,50]),(52,[]),(53,[]),(54,[]),(55,[]),(57,[]),(56,[]),(58,[]),(59,[]),(60,[]),(61,[]),(62,[]),(63,[]),(64,[]),(65,[]),(66,[]),(67,[]),(68,[]),(69,[]),(70,[]),(71,[])]) .stop))))))))))))))))))))))))))))))))))))))))))))))))))))
 | _=>.nil
theorem alF(h:S34 w K):CR 34 [] w K:=
 qm 150 P34 1 [.tmp 0] Tryz.func34 h
theorem asE:PL 34:=dK Tryz.func34
end Go.Proofs.YtpdlpabnlkofmaaGreatDoor
namespace Go.Proofs.YtpdlpabnlkofmaaGreatDoor
open Go.Fw
def Ir(u:Int)(B:Int):pr hH (l4 63 [(0,hZ u),(1,hZ B)].toArray)=some (.agg [hZ u,hZ B,hZ 0,.slice none 0 0].toArray):=by kernel_rfl
def Tx:ByteArray:=⟨#[108,105,110,101,32,97,59,32,116,104,114,101,97,100,32,116,32,123,32,115,116,111,114,101,32,97,32,61,32,49,59,32,99,104,101,99,107,32,48,59,32,125,32,116,104,114,101,97,100,32,117,32,123,32,109,102,101,110,99,101,59,32,125]⟩
def qO:cE:=((vG Tx).getD (Ns,0,0)).1
def Q7:vG Tx=some (qO,0,0):=by decide +kernel
def Vn:∀l e a,v8 Tx=some (l,e,a)->jm l:=afe (by decide +kernel)
theorem abg:iv qO=qO:=by decide +kernel
def yw:PZ qO:=by rw[<- abg];exact Sj _
def azA:qd qO 2 0 ([(⟨1,1,0,[]⟩:aS),(⟨1,0,0,[]⟩:aS),(⟨2,0,0,[]⟩:aS),(⟨1,0,0,[]⟩:aS)]:List aS)=(([(⟨1,0,0,[]⟩:aS),(⟨1,0,0,[]⟩:aS)]:List aS),(⟨3,1,0,[0]⟩:aS),0)/\dV qO 2 0 ([(⟨2,0,0,[]⟩:aS),(⟨1,0,0,[]⟩:aS),(⟨2,0,0,[]⟩:aS),(⟨1,1,0,[]⟩:aS),(⟨1,1,0,[]⟩:aS)]:List aS)=(([(⟨1,0,0,[]⟩:aS),(⟨2,0,0,[]⟩:aS),(⟨1,1,0,[]⟩:aS)]:List aS),(⟨0,0,0,[1]⟩:aS),0)/\qd qO 2 0 ([(⟨1,1,0,[]⟩:aS)]:List aS)=([],zE,13)/\qd qO 2 0 ([(⟨2,0,0,[]⟩:aS),(⟨1,0,0,[]⟩:aS),(⟨1,0,0,[]⟩:aS)]:List aS)=([],zE,13)/\dV qO 2 9 []=([],zE,1):=by decide +kernel
def aff(R:List aS×aS×Int)(K:hM)(p:cE)(pv:bP)(room c:Int)(lv:Value)(l:List aS)(w:World)(G:∀w',Ext w w'->K w')(J:Io K pv p)(M:PZ p)(u:F8 K lv l)(I:l.length<=1000)(E:∀q∈l,q.cut.length<=1000)(B:qd p room c l=R) :
  Calls hH 35 [ia pv,hZ room,hZ c,lv].toArray w (tV λv w'=>∃(ov:Value) (ev:aJ),v=.tuple #[ov,ia ev,hZ R.2.2]/\lh (eD λw=>DL w ov R.1/\mh w ev R.2.1) w w'):=B▸C35 K p pv room c lv l w G J M u I E
def alG(R:List aS×aS×Int)(K:hM)(p:cE)(pv:bP)(room c:Int)(lv:Value)(l:List aS)(w:World)(G:∀w',Ext w w'->K w')(J:Io K pv p)(M:PZ p)(u:F8 K lv l)(I:l.length<=1000)(E:∀q∈l,q.cut.length<=1000)(B:dV p room c l=R) :
  Calls hH 27 [ia pv,hZ room,hZ c,lv].toArray w (tV λv w'=>∃(ov:Value) (ev:aJ),v=.tuple #[ov,ia ev,hZ R.2.2]/\lh (eD λw=>DL w ov R.1/\mh w ev R.2.1) w w'):=B▸C27 K p pv room c lv l w G J M u I E
def C34(w:World):CR 34 [] w (λv w'=>v=.bool true/\Ext w w'):=by
 have u:=St.start w;refine alF _ _ ?_;unfold S34;obtain⟨r1,r2,r3,r4,r5⟩:=azA;refine dO auo (C65 Tx (qO,0,0) _ ee Q7 Vn) ?_;rintro _ _ ⟨pv,rfl,B⟩;have u:=u.made B;refine aO rfl (aO rfl (aO rfl (aM u vj λb1 _ u=>aI (x:=pv) u er rfl rfl λ_ u=>pop (Tw 1) (pop (Ck 1 1) (pop (Tw 2) (aM u BQ λb4 _ u=>aM u BQ λb5 _ u=>aM u BQ λb6 _ u=>aI (x:=(⟨1,0,0,bX⟩:aJ)) u.p2 kF rfl rfl λ_ u=>aI (x:=(⟨1,1,0,bX⟩:aJ)) u.p2 kF rfl rfl λ_ u=>?_))))));refine aI (x:=(⟨2,0,0,bX⟩:aJ)) u.p2 kF rfl rfl (λM u=>?_)
 have u:=u.p4;obtain⟨J,u,hX⟩:=u.HG;have O:Io (nO J M) pv qO:=Io.of hX;refine aD (x:=(⟨1,1,0,bX⟩:aJ)) kF u.p2.At (aD (x:=(⟨1,0,0,bX⟩:aJ)) kF u.p3.At (aD (x:=(⟨2,0,0,bX⟩:aJ)) kF u.p1.At (aD (x:=(⟨1,0,0,bX⟩:aJ)) kF u.p3.At (bD ([(⟨1,1,0,bX⟩:aJ),(⟨1,0,0,bX⟩:aJ),(⟨2,0,0,bX⟩:aJ),(⟨1,0,0,bX⟩:aJ)]:List aJ) u gg rfl rfl (dL rfl) λE _ u=>aD (x:=pv) er u.p5.At (dO afb (aff _ (λw'=>nO J M w'/\dC (λ_=>True) w' E ([(⟨1,1,0,bX⟩:aJ),(⟨1,0,0,bX⟩:aJ),(⟨2,0,0,bX⟩:aJ),(⟨1,0,0,bX⟩:aJ)]:List aJ)) qO pv 2 0 E ([(⟨1,1,0,[]⟩:aS),(⟨1,0,0,[]⟩:aS),(⟨2,0,0,[]⟩:aS),(⟨1,0,0,[]⟩:aS)]:List aS) _ (λ_ e=>⟨(u.ext e).p1.eD,(u.ext e).dX⟩) (O.mono λ_ h=>h.1) yw ⟨_,λ_ h=>⟨h.2,(fO (rK _ 1 1 0) (fO (rK _ 1 0 0) (fO (rK _ 2 0 0) (fO (rK _ 1 0 0) iq.nil))))⟩⟩ ee ee r1) ?_)))))
 rintro _ _ ⟨om,G,rfl,B⟩;have u:=u.made B;refine aO rfl (aO rfl (aO rfl (aM u gQ λb9 _ u=>aI (x:=G) u eX rfl rfl λ_ u=>aD (x:=pv) er u.p7.At (aD (x:=(⟨2,0,0,bX⟩:aJ)) kF u.p4.At (aD (x:=(⟨1,0,0,bX⟩:aJ)) kF u.p6.At (aD (x:=(⟨2,0,0,bX⟩:aJ)) kF u.p4.At (aD (x:=(⟨1,1,0,bX⟩:aJ)) kF u.p5.At (aD (x:=(⟨1,1,0,bX⟩:aJ)) kF u.p5.At (bD ([(⟨2,0,0,bX⟩:aJ),(⟨1,0,0,bX⟩:aJ),(⟨2,0,0,bX⟩:aJ),(⟨1,1,0,bX⟩:aJ),(⟨1,1,0,bX⟩:aJ)]:List aJ) u gg rfl rfl (dL rfl) λx50 _ u=>dO N3 (alG _ (λw'=>nO J M w'/\dC (λ_=>True) w' x50 ([(⟨2,0,0,bX⟩:aJ),(⟨1,0,0,bX⟩:aJ),(⟨2,0,0,bX⟩:aJ),(⟨1,1,0,bX⟩:aJ),(⟨1,1,0,bX⟩:aJ)]:List aJ)) qO pv 2 0 x50 ([(⟨2,0,0,[]⟩:aS),(⟨1,0,0,[]⟩:aS),(⟨2,0,0,[]⟩:aS),(⟨1,1,0,[]⟩:aS),(⟨1,1,0,[]⟩:aS)]:List aS) _ (λ_ e=>⟨(u.ext e).p4.eD,(u.ext e).dX⟩) (O.mono λ_ h=>h.1) yw ⟨_,λ_ h=>⟨h.2,(fO (rK _ 2 0 0) (fO (rK _ 1 0 0) (fO (rK _ 2 0 0) (fO (rK _ 1 1 0) (fO (rK _ 1 1 0) iq.nil)))))⟩⟩ ee ee r2) ?_)))))))))
 rintro _ _ ⟨od,I,rfl,B⟩;have u:=u.made B;refine aO rfl (aO rfl (aO rfl (aM u gQ λVL _ u=>aI (x:=I) u eX rfl rfl λ_ u=>?_)));have u:=u.p2.drop;refine⟨λjv w'=>jv=hZ 13/\St w aZ [bY VL (j0 I),eD (λw=>DL w od ([(⟨1,0,0,[]⟩:aS),(⟨2,0,0,[]⟩:aS),(⟨1,1,0,[]⟩:aS)]:List aS)/\mh w I (⟨0,0,0,[1]⟩:aS)),bY b9 (j0 G),eD (λw=>DL w om ([(⟨1,0,0,[]⟩:aS),(⟨1,0,0,[]⟩:aS)]:List aS)/\mh w G (⟨3,1,0,[0]⟩:aS)),bH E ([(⟨1,1,0,bX⟩:aJ),(⟨1,0,0,bX⟩:aJ),(⟨2,0,0,bX⟩:aJ),(⟨1,0,0,bX⟩:aJ)]:List aJ),eD (nO J M),bY b6 (j0 (⟨2,0,0,bX⟩:aJ)),bY b5 (j0 (⟨1,1,0,bX⟩:aJ)),bY b4 (j0 (⟨1,0,0,bX⟩:aJ)),bY b1 (j0 pv)] w',?_,?_⟩
 .have u:=u.drew;refine aD (x:=pv) er u.p9.At (jR gg u.p4.dX ee ee λx58 U=>⟨?_,?_,trivial⟩)
  .refine dO afb (aff _ (λw'=>nO J M w'/\dC (λ_=>True) w' E ([(⟨1,1,0,bX⟩:aJ),(⟨1,0,0,bX⟩:aJ),(⟨2,0,0,bX⟩:aJ),(⟨1,0,0,bX⟩:aJ)]:List aJ)) qO pv 2 0 x58 ([(⟨1,1,0,[]⟩:aS)]:List aS) _ (λ_ e=>⟨(u.ext e).p5.eD,((u.ext e).p4).dX⟩) (O.mono λ_ h=>h.1) yw ⟨_,λw h=>⟨U w h.2,(fO (rK _ 1 1 0) iq.nil)⟩⟩ ee ee r3) ?_;rintro _ _ ⟨o3,e3,rfl,B⟩;have u:=u.made B;refine aO rfl (aO rfl (aO rfl (aM u gQ λb15 _ u=>?_)));refine⟨eN er u.p11.At,?_⟩;exact aI (x:=e3) u eX rfl rfl (λ_ u=>have u:=u.drop.drop.p9.p9.p9.p9.p9.p9.p9.p9.p9.p9;⟨rfl,u⟩)
  refine aM u gQ (λb15 _ u=>?_);refine⟨eN er u.p10.At,?_⟩;refine dO afb (aff _ (λw'=>nO J M w'/\dC (λ_=>True) w' E ([(⟨1,1,0,bX⟩:aJ),(⟨1,0,0,bX⟩:aJ),(⟨2,0,0,bX⟩:aJ),(⟨1,0,0,bX⟩:aJ)]:List aJ)) qO pv 2 0 x58 ([(⟨1,1,0,[]⟩:aS)]:List aS) _ (λ_ e=>⟨(u.ext e).p6.eD,((u.ext e).p5).dX⟩) (O.mono λ_ h=>h.1) yw ⟨_,λw h=>⟨U w h.2,(fO (rK _ 1 1 0) iq.nil)⟩⟩ ee ee r3) ?_;rintro _ _ ⟨o3,e3,rfl,B⟩;have u:=u.made B;exact aO rfl (aO rfl (aO rfl (aI (x:=e3) u.p1 eX rfl rfl λ_ u=>have u:=u.drop.drop.p9.p9.p9.p9.p9.p9.p9.p9.p9.p9;⟨rfl,u⟩)))
 rintro _ _ ⟨rfl,u⟩ _;refine aD (x:=pv) er u.p9.At (aD (x:=(⟨2,0,0,bX⟩:aJ)) kF u.p6.At (aD (x:=(⟨1,0,0,bX⟩:aJ)) kF u.p8.At (aD (x:=(⟨1,0,0,bX⟩:aJ)) kF u.p8.At (bD ([(⟨2,0,0,bX⟩:aJ),(⟨1,0,0,bX⟩:aJ),(⟨1,0,0,bX⟩:aJ)]:List aJ) u gg rfl rfl (dL rfl) λZ _ u=>dO afb (aff _ (λw'=>nO J M w'/\dC (λ_=>True) w' Z ([(⟨2,0,0,bX⟩:aJ),(⟨1,0,0,bX⟩:aJ),(⟨1,0,0,bX⟩:aJ)]:List aJ)) qO pv 2 0 Z ([(⟨2,0,0,[]⟩:aS),(⟨1,0,0,[]⟩:aS),(⟨1,0,0,[]⟩:aS)]:List aS) _ (λ_ e=>⟨(u.ext e).p6.eD,(u.ext e).dX⟩) (O.mono λ_ h=>h.1) yw ⟨_,λ_ h=>⟨h.2,(fO (rK _ 2 0 0) (fO (rK _ 1 0 0) (fO (rK _ 1 0 0) iq.nil)))⟩⟩ ee ee r4) ?_))))
 rintro _ _ ⟨o4,e4,rfl,B⟩;have u:=u.made B;refine aO rfl (aO rfl (aO rfl (aM u gQ λb18 _ u=>aI (x:=e4) u eX rfl rfl λ_ u=>have u:=u.drop.p1.drop.drop;aD (x:=pv) er u.p9.At (dO N3 (alG _ (nO J M) qO pv 2 9 (.slice none 0 0) [] _ (λ_ e=>(u.ext e).p5.eD) O yw (F8.nil _) ee ee r5) ?_))));rintro _ _ ⟨o5,e5,rfl,B⟩;have u:=u.made B;refine aO rfl (aO rfl (aO rfl (aM u gQ λb21 _ u=>aI (x:=e5) u eX rfl rfl λ_ u=>?_)));have u:=u.drop.drop;refine⟨λjv w'=>jv=.bool true/\Ext w w',?_,?_⟩;rotate_left
 .rintro _ _ h _;exact h
 have u:=u.drew;refine aD (x:=(⟨1,0,0,bX⟩:aJ)) kF u.p8.At (aD (x:=(⟨1,0,0,bX⟩:aJ)) kF u.p8.At (bD ([(⟨1,0,0,bX⟩:aJ),(⟨1,0,0,bX⟩:aJ)]:List aJ) u gg rfl rfl (dL rfl) λq1 _ u=>aV KC u (C19 om q1 ([(⟨1,0,0,[]⟩:aS),(⟨1,0,0,[]⟩:aS)]:List aS) ([(⟨1,0,0,[]⟩:aS),(⟨1,0,0,[]⟩:aS)]:List aS) _ u.p4.eD.1 (DL.of u.dX (fO (rK _ 1 0 0) (fO (rK _ 1 0 0) iq.nil))) ee ee) λ_ Y u=>j8 ee (have u:=u.drop;aD (x:=G) eX u.p2.At (bD ([0]:List Int) u cS rfl rfl (dL rfl) λz1 _ u=>?_))));refine⟨eN eX u.p3.At,?_⟩
 obtain⟨s1,rfl⟩:=u.fJ;refine pop (N4 3 1 _ _ _) ?_;have TV:mh _ (⟨3,1,0,s1⟩:aJ) (⟨3,1,0,[0]⟩:aS):=e0 _ _ _ _ u.dX;refine aV ae9 u (C29 (⟨3,1,0,[0]⟩:aS) G (⟨3,1,0,[0]⟩:aS) (⟨3,1,0,s1⟩:aJ) _ u.p4.eD.2 TV ee) (λ_ Y u=>j8 ee (have u:=u.drop;aH (aC (λ_=>?_) λh=>absurd rfl h)));refine aD (x:=(⟨1,0,0,bX⟩:aJ)) kF u.p8.At (aD (x:=(⟨2,0,0,bX⟩:aJ)) kF u.p6.At (aD (x:=(⟨1,1,0,bX⟩:aJ)) kF u.p7.At (bD ([(⟨1,0,0,bX⟩:aJ),(⟨2,0,0,bX⟩:aJ),(⟨1,1,0,bX⟩:aJ)]:List aJ) u gg rfl rfl (dL rfl) λq2 _ u=>aV KC u (C19 od q2 ([(⟨1,0,0,[]⟩:aS),(⟨2,0,0,[]⟩:aS),(⟨1,1,0,[]⟩:aS)]:List aS) ([(⟨1,0,0,[]⟩:aS),(⟨2,0,0,[]⟩:aS),(⟨1,1,0,[]⟩:aS)]:List aS) _ u.p2.eD.1 (DL.of u.dX (fO (rK _ 1 0 0) (fO (rK _ 2 0 0) (fO (rK _ 1 1 0) iq.nil)))) ee ee) λ_ Y u=>j8 ee (have u:=u.drop;aD (x:=I) eX u.At (bD ([1]:List Int) u cS rfl rfl (dL rfl) λz2 _ u=>?_)))))
 refine⟨eN eX u.p1.At,?_⟩;obtain⟨s2,rfl⟩:=u.fJ;refine pop (afd _ _ _) ?_;have hz2:mh _ (⟨0,0,0,s2⟩:aJ) (⟨0,0,0,[1]⟩:aS):=e0 _ _ _ _ u.dX;refine aV ae9 u (C29 (⟨0,0,0,[1]⟩:aS) I (⟨0,0,0,[1]⟩:aS) (⟨0,0,0,s2⟩:aJ) _ u.p2.eD.2 hz2 ee) (λ_ Y u=>j8 ee (have u:=u.drop;aH (aC (λ_=>aH (aC (λ_=>aH (aC (λ_=>aH (aC (λ_=>aD (x:=(⟨1,1,0,bX⟩:aJ)) kF u.p7.At (aD (x:=(⟨2,0,0,bX⟩:aJ)) kF u.p6.At (aD (x:=(⟨1,0,0,bX⟩:aJ)) kF u.p8.At ⟨?_,?_,trivial⟩))) λh=>absurd rfl h)) λh=>absurd rfl h)) λh=>absurd rfl h)) λh=>absurd rfl h)))
 .refine dY Vl u (C30 (λw'=>dC (λ_=>True) w' E ([(⟨1,1,0,bX⟩:aJ),(⟨1,0,0,bX⟩:aJ),(⟨2,0,0,bX⟩:aJ),(⟨1,0,0,bX⟩:aJ)]:List aJ)) E ([(⟨1,1,0,bX⟩:aJ),(⟨1,0,0,bX⟩:aJ),(⟨2,0,0,bX⟩:aJ),(⟨1,0,0,bX⟩:aJ)]:List aJ) 1 _ (λ_ e=>((u.ext e).p4).dX) (λ_ h=>h) ee) (λW _ B u=>?_);refine⟨eN kF u.p8.At,?_⟩;refine⟨eN kF u.p7.At,?_⟩;refine⟨eN kF u.p9.At,?_⟩;refine bD ([(⟨1,1,0,bX⟩:aJ),(⟨2,0,0,bX⟩:aJ),(⟨1,0,0,bX⟩:aJ)]:List aJ) u gg rfl rfl (dL rfl) (λq3 _ u=>?_);have z6:dC (λ_=>True) _ W ([(⟨1,1,0,bX⟩:aJ),(⟨2,0,0,bX⟩:aJ),(⟨1,0,0,bX⟩:aJ)]:List aJ):=u.p1.eD u.p6.dX
  refine aV KC u (C19 W q3 ([(⟨1,1,0,[]⟩:aS),(⟨2,0,0,[]⟩:aS),(⟨1,0,0,[]⟩:aS)]:List aS) ([(⟨1,1,0,[]⟩:aS),(⟨2,0,0,[]⟩:aS),(⟨1,0,0,[]⟩:aS)]:List aS) _ (DL.of z6 (fO (rK _ 1 1 0) (fO (rK _ 2 0 0) (fO (rK _ 1 0 0) iq.nil)))) (DL.of u.dX (fO (rK _ 1 1 0) (fO (rK _ 2 0 0) (fO (rK _ 1 0 0) iq.nil)))) ee ee) (λ_ Y u=>j8 ee (have u:=u.drop;dY Vl u (C30 (λw'=>dC (λ_=>True) w' E ([(⟨1,1,0,bX⟩:aJ),(⟨1,0,0,bX⟩:aJ),(⟨2,0,0,bX⟩:aJ),(⟨1,0,0,bX⟩:aJ)]:List aJ)) E ([(⟨1,1,0,bX⟩:aJ),(⟨1,0,0,bX⟩:aJ),(⟨2,0,0,bX⟩:aJ),(⟨1,0,0,bX⟩:aJ)]:List aJ) 4 _ (λ_ e=>((u.ext e).p5).dX) (λ_ h=>h) ee) λV _ B u=>?_))
  have Vi:dC (λ_=>True) _ V ([(⟨1,1,0,bX⟩:aJ),(⟨1,0,0,bX⟩:aJ),(⟨2,0,0,bX⟩:aJ),(⟨1,0,0,bX⟩:aJ)]:List aJ):=u.eD u.p6.dX;exact aV KC u (C19 V E ([(⟨1,1,0,[]⟩:aS),(⟨1,0,0,[]⟩:aS),(⟨2,0,0,[]⟩:aS),(⟨1,0,0,[]⟩:aS)]:List aS) ([(⟨1,1,0,[]⟩:aS),(⟨1,0,0,[]⟩:aS),(⟨2,0,0,[]⟩:aS),(⟨1,0,0,[]⟩:aS)]:List aS) _ (DL.of Vi (fO (rK _ 1 1 0) (fO (rK _ 1 0 0) (fO (rK _ 2 0 0) (fO (rK _ 1 0 0) iq.nil))))) (DL.of u.p6.dX (fO (rK _ 1 1 0) (fO (rK _ 1 0 0) (fO (rK _ 2 0 0) (fO (rK _ 1 0 0) iq.nil))))) ee ee) (λ_ _ u=>j8 ee (aD (x:=G) eX u.p4.At (pop (Ir 3 1) (aV abb u (C32 (⟨3,1,0,[0]⟩:aS) G (⟨3,1,0,[]⟩:aS) (⟨3,1,0,bX⟩:aJ) _ u.p5.eD.2 (rK _ 3 1 0)) λ_ _ u=>j8 ee (aD (x:=G) eX u.p4.At (aD (x:=I) eX u.p2.At (aV abb u (C32 (⟨3,1,0,[0]⟩:aS) G (⟨0,0,0,[1]⟩:aS) I _ u.p5.eD.2 u.p3.eD.2) λ_ _ u=>bR ⟨rfl,u.aG⟩)))))))
 refine bD ([(⟨1,1,0,bX⟩:aJ),(⟨2,0,0,bX⟩:aJ),(⟨1,0,0,bX⟩:aJ)]:List aJ) u gg rfl rfl (dL rfl) (λq3 _ u=>dY Vl u (C30 (λw'=>dC (λ_=>True) w' E ([(⟨1,1,0,bX⟩:aJ),(⟨1,0,0,bX⟩:aJ),(⟨2,0,0,bX⟩:aJ),(⟨1,0,0,bX⟩:aJ)]:List aJ)) E ([(⟨1,1,0,bX⟩:aJ),(⟨1,0,0,bX⟩:aJ),(⟨2,0,0,bX⟩:aJ),(⟨1,0,0,bX⟩:aJ)]:List aJ) 1 _ (λ_ e=>((u.ext e).p5).dX) (λ_ h=>h) ee) λW _ B u=>?_);refine⟨eN kF u.p9.At,?_⟩;refine⟨eN kF u.p8.At,?_⟩;refine⟨eN kF u.p10.At,?_⟩;have z6:dC (λ_=>True) _ W ([(⟨1,1,0,bX⟩:aJ),(⟨2,0,0,bX⟩:aJ),(⟨1,0,0,bX⟩:aJ)]:List aJ):=u.eD u.p6.dX
 refine aV KC u (C19 W q3 ([(⟨1,1,0,[]⟩:aS),(⟨2,0,0,[]⟩:aS),(⟨1,0,0,[]⟩:aS)]:List aS) ([(⟨1,1,0,[]⟩:aS),(⟨2,0,0,[]⟩:aS),(⟨1,0,0,[]⟩:aS)]:List aS) _ (DL.of z6 (fO (rK _ 1 1 0) (fO (rK _ 2 0 0) (fO (rK _ 1 0 0) iq.nil)))) (DL.of u.p1.dX (fO (rK _ 1 1 0) (fO (rK _ 2 0 0) (fO (rK _ 1 0 0) iq.nil)))) ee ee) (λ_ Y u=>j8 ee (have u:=u.p1.drop;dY Vl u (C30 (λw'=>dC (λ_=>True) w' E ([(⟨1,1,0,bX⟩:aJ),(⟨1,0,0,bX⟩:aJ),(⟨2,0,0,bX⟩:aJ),(⟨1,0,0,bX⟩:aJ)]:List aJ)) E ([(⟨1,1,0,bX⟩:aJ),(⟨1,0,0,bX⟩:aJ),(⟨2,0,0,bX⟩:aJ),(⟨1,0,0,bX⟩:aJ)]:List aJ) 4 _ (λ_ e=>((u.ext e).p5).dX) (λ_ h=>h) ee) λV _ B u=>?_))
 have Vi:dC (λ_=>True) _ V ([(⟨1,1,0,bX⟩:aJ),(⟨1,0,0,bX⟩:aJ),(⟨2,0,0,bX⟩:aJ),(⟨1,0,0,bX⟩:aJ)]:List aJ):=u.eD u.p6.dX;exact aV KC u (C19 V E ([(⟨1,1,0,[]⟩:aS),(⟨1,0,0,[]⟩:aS),(⟨2,0,0,[]⟩:aS),(⟨1,0,0,[]⟩:aS)]:List aS) ([(⟨1,1,0,[]⟩:aS),(⟨1,0,0,[]⟩:aS),(⟨2,0,0,[]⟩:aS),(⟨1,0,0,[]⟩:aS)]:List aS) _ (DL.of Vi (fO (rK _ 1 1 0) (fO (rK _ 1 0 0) (fO (rK _ 2 0 0) (fO (rK _ 1 0 0) iq.nil))))) (DL.of u.p6.dX (fO (rK _ 1 1 0) (fO (rK _ 1 0 0) (fO (rK _ 2 0 0) (fO (rK _ 1 0 0) iq.nil))))) ee ee) (λ_ _ u=>j8 ee (aD (x:=G) eX u.p4.At (pop (Ir 3 1) (aV abb u (C32 (⟨3,1,0,[0]⟩:aS) G (⟨3,1,0,[]⟩:aS) (⟨3,1,0,bX⟩:aJ) _ u.p5.eD.2 (rK _ 3 1 0)) λ_ _ u=>j8 ee (aD (x:=G) eX u.p4.At (aD (x:=I) eX u.p2.At (aV abb u (C32 (⟨3,1,0,[0]⟩:aS) G (⟨0,0,0,[1]⟩:aS) I _ u.p5.eD.2 u.p3.eD.2) λ_ _ u=>bR ⟨rfl,u.aG⟩)))))))
variable (w:World) (K:Value->hM)
def P9:dI:=λi=>match i with
 | 6=>(.of [(0,[]),(1,[]),(2,[]),(3,[]),(4,[]),(5,[]),(6,[]),(7,[]),(8,[]),(9,[]),(10,[]),(11,[]),(12,[]),(13,[]),(14,[]),(15,[]),(16,[]),(17,[]),(18,[]),(19,[]),(20,[]),(21,[]),(22,[]),(23,[]),(25,[]),(26,[]),(27,[]),(28,[]),(29,[]),(24,[25,28]),(30,[]),(31,[]),(32,[]),(33,[]),(34,[]),(35,[]),(36,[])])
 | _=>.nil
end Go.Proofs.YtpdlpabnlkofmaaGreatDoor
namespace Go.Proofs.YtpdlpabnlkofmaaGreatDoor
open Go.Fw
theorem abh{p:cE}{c:Int}(hc:GC p):∀(l:List aS) (m:gN) (o:List cB) (a:Nat),tS p a m->tS p (a+l.length) (tg c m o l).1
 | [],m,o,a,h=>h
 | q::r,m,o,a,h=>by
  rw[List.length_cons]
  unfold tg
  split
  .exact h.mono cK
  .split
   .exact(h.step hc).mono cK
   .exact(abh hc r _ _ _ (h.step hc)).mono cK
def abi{p:cE}{room c:Int}(h:eO p room c=0):fm p=0/\(1<=room/\room<=16)/\0<=c/\c<=8:=by
 unfold eO at h
 omega
def alH{p:cE}{room c:Int}(u:PZ p)(h:eO p room c=0)(l:List aS):tS p l.length (tg c (gY p room) [] l).1:=by
 obtain⟨h1,h2,_⟩:=abi h
 have:=abh (c:=c) (vK h1) l _ [] 0 (tS.new u (vK h1) h2)
 grind
def abj{p:cE}{room c:Int}(B:PZ p)(l:List aS):(px p room c l).1.cut.length<=1073741824:=by
 unfold px
 split
 .exact l1 _
 rename_i h
 split
 .exact l1 _
 have u:=(alH B (vh.1 h) l).go.ok
 show(List.take _ _).length<=_
 rw[l0]
 have:=u.mem.ll;have:=u.mem.fl
 omega
variable (w:World) (K:Value->hM)
def P4:dI:=λi=>match i with
 | 6=>(.of [(0,[]),(1,[]),(2,[]),(3,[]),(4,[]),(5,[]),(6,[]),(7,[]),(8,[]),(9,[]),(10,[]),(11,[]),(12,[]),(13,[]),(14,[]),(15,[]),(16,[]),(18,[]),(19,[]),(20,[]),(17,[20]),(21,[]),(22,[]),(23,[]),(24,[]),(25,[]),(26,[]),(27,[]),(28,[]),(30,[]),(31,[]),(32,[]),(33,[]),(29,[30,32]),(34,[]),(35,[]),(36,[]),(37,[]),(38,[]),(39,[]),(40,[])])
 | _=>.nil
end Go.Proofs.YtpdlpabnlkofmaaGreatDoor
namespace Go.Proofs.YtpdlpabnlkofmaaGreatDoor
open Go.Fw
def N5{p:cE}{room c:Int}{l:List aS}:dV p room c (dV p room c l).1=dV p room c l:=by
 by_cases h:eO p room c=0
 .rw[vM h,vM h]
  show((fW c (gY p room) (fW c (gY p room) l).2).2,xQ (fW c (gY p room) (fW c (gY p room) l).2).1,(0:Int))=_
  rw[tT]
 rw[tU h,tU h]
def Is{p:cE}{room c:Int}(u:PZ p)(l:List aS):(dV p room c l).2.1.cut.length<=1073741824:=by
 by_cases h:eO p room c=0
 .rw[vM h]
  show(xQ _).cut.length<=_
  rw[<- (Ga h l).1]
  exact abj u _
 rw[tU h];exact l1 _
section
variable {D:List aS->List aS×aS}(hD:∀s,(D s).1.length<=s.length) {Q:List aS->aS->Prop}
include hD in
end
def Q8{p:cE}{room c:Int}{l:List aS}(h:(dV p room c l).2.2=0):eO p room c=0:=by
 by_cases u:eO p room c=0
 .exact u
 rw[tU u]at h;exact absurd h u
variable (w:World) (K:Value->hM)
def S8(p0 By l2:Value):Prop:=
 qZ hH (zx 27 p0) w λp3 a=>lA 27 p3 a λb=>cF 11 [b] a λc d=>sA 27 p3 c d λe=>cF 26 [l2] e λf g=>bB .and 3 By (i 7) λh=>lA 27 p3 g λj=>
 cF 27 [j,(i 2),h,f] g λk l=>xT k 0 λn=>xT k 1 λo=>xT k 2 λp=>aL 63 l λq r=>sA 63 q o r λs=>bB .neq 31 p (i 0) λt=>cV t (eT (λK1=>lN 39 n λu=>
 bB .eql 3 u (i 0) λv=>cV v (cF 34 [] s λx y=>K1 x y) (K1 ff s)) (λz aa=>∀_:Env,
 K z aa)) (lA 27 p3 s λab=>cF 27 [ab,(i 2),h,n] s λY ad=>xT Y 0 λae=>xT Y 1 λaf=>xT Y 2 λag=>aL 63 ad λRt ah=>sA 63 Rt af ah λai=>lA 27 p3 ai λaj=>
 cF 38 [aj,(i 2),h,n] ai λI al=>xT I 0 λam=>xT I 1 λ_=>xT I 2 λan=>xT I 3 λ_=>aL 63 al λG ao=>sA 63 G am ao λV=>eT (λK2=>bB .neq 31 ag (i 0) λaq=>
 cV aq (K2 tt V) (bB .neq 31 an (i 0) λar=>cV ar (K2 tt V) (cF 19 [n,ae] V λW M=>eP hH (Op.unary .not W) λav=>cV av (K2 tt M) (lA 63 q M λaw=>lA 63 Rt M λax=>
 cF 29 [aw,ax] M λay J=>eP hH (Op.unary .not ay) λa0=>cV a0 (K2 tt J) (lA 63 q J λa1=>lA 63 G J λa2=>cF 29 [a1,a2] J λa3 a4=>eP hH (Op.unary .not a3) λa5=>
 K2 a5 a4))))) (λa6 a7=>∀_:Env,
 cV a6 (K ff a7) (oq (λO B E Z=>∀_:Env,
 eT (λK4=>lN 39 f λa9=>bA .lss 3 E a9 λba=>cV ba (lN 39 n λbb=>bA .lss 3 B bb λbc=>K4 bc Z) (K4 ff Z)) (λbd be=>∀_:Env,
 cV bd (eT (λK5=>bB .add 3 E (i 1) λbf=>eP hH (n4 39 f (some E) (some bf) none) λbg=>bB .add 3 B (i 1) λbh=>eP hH (n4 39 n (some B) (some bh) none) λbi=>
 cF 19 [bg,bi] (drew be) λbj bk=>cV bj (bB .add 3 B (i 1) λbl=>K5 bl bk) (K5 B bk)) (λU bm=>∀_:Env,
 bB .add 3 E (i 1) λbn=>O U bn bm)) (eT (λK6=>lN 39 n λbo=>bA .eql 3 B bo λbp=>cV bp (cF 34 [] be λbq br=>K6 bq br) (K6 ff be)) (λbs bt=>∀_:Env,
 K bs bt)))) λO=>O (i 0) (i 0) a7)))
def P8:dI:=λi=>match i with
 | 15=>.run 0 11
 | _=>.nil
theorem asG(p0 B u:Value)(h:S8 w K p0 B u):CR 8 [p0,B,u] w K:=
 qm 115 P8 64 [.tmp 6] Tryz.func8 h
end Go.Proofs.YtpdlpabnlkofmaaGreatDoor
namespace Go.Proofs.YtpdlpabnlkofmaaGreatDoor
open Go.Fw
theorem Ty{α:Type}{xs:List α}{k:Nat}{x:α}(h:xs[k]?=some x):(xs.take (k+1)).drop k=[x]:=by
 obtain⟨h1,h2⟩:=kp.1 h
 rw[List.take_add_one,h,List.drop_append_of_le_length (by rw[l0];omega),D7 (by rw[l0];omega)];rfl
def sub_eq{α:Type}{a l:List α}{k i:Nat}{y x:α}(u:a[k]?=some y)(B:l[i]?=some x)(h:(a.drop k).Sublist (l.drop i))(e:x=y):(a.drop (k+1)).Sublist (l.drop (i+1)):=by
 rw[zb u,zb B,e]at h
 exact List.cons_sublist_cons.1 h
theorem alI{α:Type}{a l:List α}{k i:Nat}{y x:α}(u:a[k]?=some y)(B:l[i]?=some x)(h:(a.drop k).Sublist (l.drop i))(e:¬ x=y):(a.drop k).Sublist (l.drop (i+1)):=by
 rw[zb B]at h
 rw[zb u]at h |-
 cases h with
 | cons _ h=>exact h
 | cons_cons _ h=>exact absurd rfl e
def C8(p:cE)(pv:bP)(n:Int)(lv:Value)(l:List aS)(w:World)(hp:mh w pv p)(hL:DL w lv l):CR 8 [ia pv,hZ n,lv] w (λv w'=>v=.bool true/\Ext w w'):=by
 have u:=St.start w;refine asG _ _ _ _ _ ?_;unfold S8;refine cI (x:=pv) u (λb3 w1 u=>aD er u.At (dO auk (C11 p pv _ (Deep.ext hp u.aG)) ?_));rintro _ w3 ⟨J,rfl,O⟩;have u:=u.made O;refine aI (x:=J) u.p1 er rfl rfl (λw5 u=>dO azu (C26 lv l _ (hL.ext u.aG)) ?_);rintro sv w8 O;have u:=((u.made O).p2).gR;obtain⟨FF,u,hX⟩:=u.HG;have hp':Io (nO FF w8) J (iv p):=Io.of λw' h=>(hX w' h).1;have VA:F8 (nO FF w8) sv (fr l):=F8.of λw' h=>(hX w' h).2;obtain⟨ts,zY⟩:=id VA;obtain⟨hl1,Dk⟩:=aa9 l;have hl3:∀q∈(fr l),q.cut.length<=1000:=λq M=>wS (Dk q M) ee
 have hl6:∀q∈(fr l),q.cut.length<=1000000:=λq M=>wS (Dk q M) ee;have hz:=Sj p;have hn:ts.length=(fr l).length:=(zY _ u.eD).2.1;refine aci ee ee ?_;obtain⟨c,ec⟩:∃c,c=TM n 7:=⟨_,rfl⟩;rw[<- ec];refine aD (x:=J) er u.p1.At (dO N3 (C27 (nO FF w8) (iv p) J 2 c sv (fr l) _ (λ_ e=>(u.ext e).eD) hp' hz VA cK hl3) ?_);rintro _ _ ⟨Ti,E,rfl,O⟩;have u:=u.made O;refine aO rfl (aO rfl (aO rfl (aM u gQ λb9 w1 u=>aI (x:=E) u eX rfl rfl λw2 u=>?_)));have Q5:=yu (p:=(iv p)) (room:=2) (c:=c) (l:=(fr l))
 have O0:=Q5.length_le;obtain⟨t1,z6,asH⟩:=u.p1.eD.1.open;have azB:t1.length=(dV (iv p) 2 c (fr l)).1.length:=asH.1;refine bV (aC (λh0=>?_) λh0=>?_)
 .have e0:(dV (iv p) 2 c (fr l)).1=[]:=by
   by_cases G:eO (iv p) 2 c=0
   .rw[vM G]at h0;exact absurd rfl h0
   .rw[tU G]
  refine⟨λjv w'=>jv=.bool true/\Ext w w',?_,?_⟩
  .exact aK gg z6 (aH (aC (λ_=>aV asE u (C34 _) λ_ _ u=>⟨rfl,u.aG⟩) λh=>absurd (by rw[azB,e0];rfl) h))
  rintro _ w10 h _;exact h
 have h0:(dV (iv p) 2 c (fr l)).2.2=0:=vh.1 h0;have G:=Q8 h0;obtain⟨r1,r2⟩:=Ga G (fr l);have r0:(dV (iv p) 2 c (fr l)).1=(fW c (gY (iv p) 2) (fr l)).2:=by rw[vM G]
 have r3:(dV (iv p) 2 c (fr l)).2.1=xQ (fW c (gY (iv p) 2) (fr l)).1:=by rw[vM G]
 rw[<- r0]at r1 r2;rw[<- r3]at r1;have u:=u.p2.p2.gR;obtain⟨Z,ewM⟩:∃Z,Z=w2:=⟨_,rfl⟩;rw[<- ewM]at u z6 asH |-;obtain⟨F3,u,I⟩:=u.HG;have hp3:Io (nO F3 Z) J (iv p):=hp'.mono λw' h=>(I w' h).2;have alJ:F8 (nO F3 Z) Ti (dV (iv p) 2 c (fr l)).1:=F8.of λw' h=>(I w' h).1.1;obtain⟨t3,ht3⟩:=id alJ;have hn3:t3.length=(dV (iv p) 2 c (fr l)).1.length:=(ht3 _ u.eD).2.1;refine aD (x:=J) er u.p2.At (dO N3 (alG (dV (iv p) 2 c (fr l)) (nO F3 Z) (iv p) J 2 c Ti (dV (iv p) 2 c (fr l)).1 _ (λ_ e=>(u.ext e).eD) hp3 hz alJ cK (λq M=>hl3 q (Q5.subset M)) N5) ?_)
 rintro _ _ ⟨V,Y,rfl,O⟩;have u:=u.made O;refine aO rfl (aO rfl (aO rfl (aM u gQ λVL w3 u=>aI (x:=Y) u eX rfl rfl λ_ u=>aD (x:=J) er u.p4.At (dO azr (C38 (nO F3 Z) (iv p) J 2 c Ti (dV (iv p) 2 c (fr l)).1 _ (λ_ e=>(u.ext e).p2.eD) hp3 hz alJ cK λq M=>hl3 q (Q5.subset M)) ?_))));rintro _ _ ⟨B,ov3,rfl,O⟩;have u:=(u.made O).split;refine aO rfl (aO rfl (aO rfl (aO rfl (aM u gQ λb14 w5 u=>aI (x:=B) u eX rfl rfl λ_ u=>?_))));refine⟨λjv w'=>jv=.bool false/\St w aZ [bY b14 (j0 B),eD (λw=>mh w B (px (iv p) 2 c (dV (iv p) 2 c (fr l)).1).1),bH ov3 (px (iv p) 2 c (dV (iv p) 2 c (fr l)).1).2.1,bY VL (j0 Y),eD (λw=>DL w V (dV (iv p) 2 c (fr l)).1/\mh w Y (dV (iv p) 2 c (fr l)).2.1),eD (nO F3 Z),bY b9 (j0 E),bY b3 (j0 J)] w',?_,?_⟩
 .refine bV (aC (λh=>absurd h0 h) λ_=>bV ?_);exact aC (λh=>absurd r2 h) (λ_=>aV KC u (C19 Ti V (dV (iv p) 2 c (fr l)).1 (dV (iv p) 2 c (fr l)).1 _ (I _ u.p5.eD).1.1 u.p4.eD.1 cK λq M=>hl6 q (Q5.subset M)) λ_ _ u=>bR (fx ei (aD (x:=E) eX u.p6.At (aD (x:=Y) eX u.p3.At (aV ae9 u (C29 (dV (iv p) 2 c (fr l)).2.1 E (dV (iv p) 2 c (fr l)).2.1 Y _ (I _ u.p5.eD).1.2 u.p4.eD.2 (Is hz _)) λ_ _ u=>bR (fx ei (aD (x:=E) eX u.p6.At (aD (x:=B) eX u.At (aV ae9 u (C29 (dV (iv p) 2 c (fr l)).2.1 E (px (iv p) 2 c (dV (iv p) 2 c (fr l)).1).1 B _ (I _ u.p5.eD).1.2 u.p1.eD (Is hz _)) λ_ _ u=>bR ⟨vb (by rw[r1];simp),u⟩)))))))))
 rintro _ _ ⟨rfl,u⟩ _;refine ft ?_;refine⟨λmm y1 y2 w'=>∃(k i:Nat),y1=hZ (k:Int)/\y2=hZ (i:Int)/\mm=(fr l).length-i/\k<=(dV (iv p) 2 c (fr l)).1.length/\i<=(fr l).length/\((dV (iv p) 2 c (fr l)).1.drop k).Sublist ((fr l).drop i)/\St w aZ [bY b14 (j0 B),eD (λw=>mh w B (px (iv p) 2 c (dV (iv p) 2 c (fr l)).1).1),bH ov3 (px (iv p) 2 c (dV (iv p) 2 c (fr l)).1).2.1,bY VL (j0 Y),eD (λw=>DL w V (dV (iv p) 2 c (fr l)).1/\mh w Y (dV (iv p) 2 c (fr l)).2.1),eD (nO F3 Z),bY b9 (j0 E),bY b3 (j0 J)] w',⟨_,0,0,rfl,rfl,rfl,l1 _,l1 _,Q5,u⟩,?_⟩
 rintro mm _ _ w51 ⟨k,i,rfl,rfl,rfl,hk,hi,W,u⟩ _;have U:=ht3 _ u.p5.eD;have Gc:=zY _ (I _ u.p5.eD).2;refine⟨λjv w'=>jv=.bool (decide (i<(fr l).length/\k<(dV (iv p) 2 c (fr l)).1.length))/\w'=w51,?_,?_⟩
 .exact aK gg Gc.1 (aR (aC (λ_=>aK gg U.1 (aR ⟨vb (ga.2 cK),rfl⟩)) λ_=>⟨vb (fN cK).symm,rfl⟩))
 rintro _ _ ⟨rfl,rfl⟩ _;refine aC (λc1=>?_) (λc1=>?_);rotate_left
 .have Oa:k=(dV (iv p) 2 c (fr l)).1.length:=by
   by_cases h:i<(fr l).length
   .omega
   .rw[D7 (by omega:(fr l).length<=i)]at W;have:=W.length_le;rw[qb,List.length_nil]at this;omega
  refine⟨λjv w'=>jv=.bool true/\Ext w w',?_,?_⟩
  .exact aK gg U.1 (aH (aC (λ_=>aV asE u (C34 _) λ_ _ u=>⟨rfl,u.aG⟩) λh=>absurd cK h))
  rintro _ w53 h dd5;exact h
 obtain⟨y,hy⟩:=gx ((dV (iv p) 2 c (fr l)).1) (i:=k) cK;obtain⟨z,Ki⟩:=gx (fr l) (i:=i) cK;obtain⟨ty,hty⟩:=gx t3 (i:=k) cK;obtain⟨tz,htz⟩:=gx ts (i:=i) cK;have hdy:=U.2.2 k ty y hty hy;have hdz:=Gc.2.2 i tz z htz Ki;refine⟨λkv w'=>∃k2:Nat,kv=hZ (k2:Int)/\k2<=(dV (iv p) 2 c (fr l)).1.length/\((dV (iv p) 2 c (fr l)).1.drop k2).Sublist ((fr l).drop (i+1))/\St w aZ [bY b14 (j0 B),eD (λw=>mh w B (px (iv p) 2 c (dV (iv p) 2 c (fr l)).1).1),bH ov3 (px (iv p) 2 c (dV (iv p) 2 c (fr l)).1).2.1,bY VL (j0 Y),eD (λw=>DL w V (dV (iv p) 2 c (fr l)).1/\mh w Y (dV (iv p) 2 c (fr l)).2.1),eD (nO F3 Z),bY b9 (j0 E),bY b3 (j0 J)] w',?_,?_⟩
 rotate_left
 .rintro _ _ ⟨k2,rfl,h1,h2,u⟩ dd5;exact aN cK ⟨_,cK,k2,i+1,rfl,rfl,rfl,h1,cK,h2,u⟩
 refine aN cK (Dm gg Gc.1 (.inr ⟨_,rfl,cK,rfl⟩) (.inr ⟨_,rfl,cK,rfl⟩) cK cK λv1 hv1=>aN cK (Dm gg U.1 (.inr ⟨_,rfl,cK,rfl⟩) (.inr ⟨_,rfl,cK,rfl⟩) cK cK λv2 hv2=>?_));rw[show((i:Int)+1).toNat=i+1 from cK,qa,Ty htz]at hv1;rw[show((k:Int)+1).toNat=k+1 from cK,qa,Ty hty]at hv2;have u:=u.drew;exact aV KC u (C19 v1 v2 [z] [y] _ (DL.of (hv1.ext (Ext.drew _)) ((fO hdz iq.nil).ext (Ext.drew _))) (DL.of (hv2.ext (Ext.drew _)) ((fO hdy iq.nil).ext (Ext.drew _))) (by show 1<=_;decide) λ_ M=>by rw[List.mem_singleton.1 M];exact hl6 z (kE Ki)) (λ_ _ u=>aC (λc2=>aN cK ⟨k+1,rfl,cK,sub_eq hy Ki W (List.cons.inj c2).1,u⟩) λc2=>⟨k,rfl,hk,alI hy Ki W (λh=>c2 (by rw[h])),u⟩)
def own:ownKnob Tryz.prog.godebug=none:=by kernel_rfl
def rd9:zp hH 9 ByteArray (λy=>y.size<=maxLen):=RdT.deep (ahS Tryz.underlying9 (by kernel_rfl)) λ_ _=>rfl
def Ok:zp hH 3 Int eZ:=RdT.deep (ahR Tryz.underlying3 (by kernel_rfl)) λ_ _=>rfl
def asI:zp hH 161 cJ ye:=λw=>⟨by kernel_rfl,λenc base held fuel cs x h=>by
 obtain⟨I,n,G⟩:=nV Tryz.underlying161 h
 obtain⟨y0,Y⟩:=G 0 _ rfl
 obtain⟨y1,h1⟩:=G 1 _ rfl
 obtain⟨y2,h2⟩:=G 2 _ rfl
 obtain⟨u,e0,W,J,k0⟩:=(rd9 w).rd enc base held n _ _ Y
 obtain⟨B,V,a1,Z,O⟩:=(Ok w).rd enc base held n _ _ h1
 obtain⟨E,M,a2,U,k2⟩:=(Ok w).rd enc base held n _ _ h2
 obtain rfl:u=W:=J
 obtain rfl:B=a1:=Z
 obtain rfl:E=a2:=U
 have p0:=eB (s:=1) e0
 have p1:=eB (s:=1) V
 have p2:=eB (s:=1) M
 have hz:cs.drop 3=[]:=Cx.2 (by rw[I];exact zW (by kernel_rfl))
 refine⟨(⟨u,B,E⟩:cJ),?_,(⟨u,B,E⟩:cJ),rfl,k0,O,k2⟩
 have e:cs=cs.drop 0:=rfl
 rw[e]
 refine p0.trans ?_
 refine(gO _ p1).trans ?_
 refine(gO _ (gO _ p2)).trans ?_
 exact(gO _ (gO _ (gO _ hz)))⟩
def alK:zp hH 23 (List cJ) (λys:(List cJ)=>∀y∈ys,ye y):=zp.slice Tryz.underlying23 (by kernel_rfl) asI
def azD:zp hH 22 (List (List cJ)) (λys:(List (List cJ))=>∀y∈ys,(λys:(List cJ)=>∀y∈ys,ye y) y):=zp.slice Tryz.underlying22 (by kernel_rfl) alK
def azE:zp hH 91 (List ByteArray) (λys:(List ByteArray)=>∀y∈ys,(λy:ByteArray=>y.size<=maxLen) y):=zp.slice Tryz.underlying91 (by kernel_rfl) rd9
def asJ:zp hH 164 cA AI:=λw=>⟨by kernel_rfl,λenc base held fuel cs x h=>by
 obtain⟨J,n,u⟩:=nV Tryz.underlying164 h
 obtain⟨y0,h0⟩:=u 0 _ rfl
 obtain⟨y1,h1⟩:=u 1 _ rfl
 obtain⟨y2,h2⟩:=u 2 _ rfl
 obtain⟨y3,h3⟩:=u 3 _ rfl
 obtain⟨B,e0,a0,M,k0⟩:=(Ok w).rd enc base held n _ _ h0
 obtain⟨E,e1,a1,d1,W⟩:=(Ok w).rd enc base held n _ _ h1
 obtain⟨G,V,a2,Z,k2⟩:=(rd9 w).rd enc base held n _ _ h2
 obtain⟨I,e3,Y,O,U⟩:=(Ok w).rd enc base held n _ _ h3
 obtain rfl:B=a0:=M
 obtain rfl:E=a1:=d1
 obtain rfl:G=a2:=Z
 obtain rfl:I=Y:=O
 have p0:=eB (s:=1) e0
 have p1:=eB (s:=1) e1
 have p2:=eB (s:=1) V
 have p3:=eB (s:=1) e3
 have hz:cs.drop 4=[]:=Cx.2 (by rw[J];exact zW (by kernel_rfl))
 refine⟨(⟨B,E,G,I⟩:cA),?_,(⟨B,E,G,I⟩:cA),rfl,k0,W,k2,U⟩
 have e:cs=cs.drop 0:=rfl
 rw[e]
 refine p0.trans ?_
 refine(gO _ p1).trans ?_
 refine(gO _ (gO _ p2)).trans ?_
 refine(gO _ (gO _ (gO _ p3))).trans ?_
 exact(gO _ (gO _ (gO _ (gO _ hz))))⟩
def alL:zp hH 82 (List cA) (λys:(List cA)=>∀y∈ys,AI y):=zp.slice Tryz.underlying82 (by kernel_rfl) asJ
def asK:zp hH 193 bQ I2:=λw=>⟨by kernel_rfl,λenc base held fuel cs x h=>by
 obtain⟨Y,n,u⟩:=nV Tryz.underlying193 h
 obtain⟨y0,h0⟩:=u 0 _ rfl
 obtain⟨y1,h1⟩:=u 1 _ rfl
 obtain⟨y2,h2⟩:=u 2 _ rfl
 obtain⟨y3,h3⟩:=u 3 _ rfl
 obtain⟨y4,h4⟩:=u 4 _ rfl
 obtain⟨y5,h5⟩:=u 5 _ rfl
 obtain⟨y6,h6⟩:=u 6 _ rfl
 obtain⟨y7,h7⟩:=u 7 _ rfl
 obtain⟨y8,h8⟩:=u 8 _ rfl
 obtain⟨I,e0,a0,Z,k0⟩:=(Ok w).rd enc base held n _ _ h0
 obtain⟨B,e1,a1,d1,k1⟩:=(rd9 w).rd enc base held n _ _ h1
 obtain⟨E,e2,a2,d2,k2⟩:=(rd9 w).rd enc base held n _ _ h2
 obtain⟨U,e3,a3,d3,k3⟩:=(alL w).rd enc base held n _ _ h3
 obtain⟨V,e4,a4,d4,k4⟩:=(alL w).rd enc base held n _ _ h4
 obtain⟨O,e5,a5,W,k5⟩:=(Ok w).rd enc base held n _ _ h5
 obtain⟨G,e6,a6,d6,k6⟩:=(Ok w).rd enc base held n _ _ h6
 obtain⟨M,e7,a7,d7,k7⟩:=(Ok w).rd enc base held n _ _ h7
 obtain⟨J,e8,a8,d8,k8⟩:=(Ok w).rd enc base held n _ _ h8
 obtain rfl:I=a0:=Z
 obtain rfl:B=a1:=d1
 obtain rfl:E=a2:=d2
 obtain rfl:O=a5:=W
 obtain rfl:G=a6:=d6
 obtain rfl:M=a7:=d7
 obtain rfl:J=a8:=d8
 have p0:=eB (s:=1) e0
 have p1:=eB (s:=1) e1
 have p2:=eB (s:=1) e2
 have p3:=eB (s:=1) e3
 have p4:=eB (s:=1) e4
 have p5:=eB (s:=1) e5
 have p6:=eB (s:=1) e6
 have p7:=eB (s:=1) e7
 have p8:=eB (s:=1) e8
 have hz:cs.drop 9=[]:=Cx.2 (by rw[Y];exact zW (by kernel_rfl))
 refine⟨(⟨I,B,E,U,V,O,G,M,J⟩:bE),?_,(⟨I,B,E,a3,a4,O,G,M,J⟩:bQ),⟨U,V,rfl,d3,d4⟩,k0,k1,k2,k3,k4,k5,k6,k7,k8⟩
 have e:cs=cs.drop 0:=rfl
 rw[e]
 refine p0.trans ?_
 refine(gO _ p1).trans ?_
 refine(gO _ (gO _ p2)).trans ?_
 refine(gO _ (gO _ (gO _ p3))).trans ?_
 refine(gO _ (gO _ (gO _ (gO _ p4)))).trans ?_
 refine(gO _ (gO _ (gO _ (gO _ (gO _ p5))))).trans ?_
 refine(gO _ (gO _ (gO _ (gO _ (gO _ (gO _ p6)))))).trans ?_
 refine(gO _ (gO _ (gO _ (gO _ (gO _ (gO _ (gO _ p7))))))).trans ?_
 refine(gO _ (gO _ (gO _ (gO _ (gO _ (gO _ (gO _ (gO _ p8)))))))).trans ?_
 exact(gO _ (gO _ (gO _ (gO _ (gO _ (gO _ (gO _ (gO _ (gO _ hz)))))))))⟩
def asL:zp hH 141 (List bQ) (λys:(List bQ)=>∀y∈ys,I2 y):=zp.slice Tryz.underlying141 (by kernel_rfl) asK
def asM:zp hH 146 cN yf:=λw=>⟨by kernel_rfl,λenc base held fuel cs x h=>by
 obtain⟨J,n,u⟩:=nV Tryz.underlying146 h
 obtain⟨y0,h0⟩:=u 0 _ rfl
 obtain⟨y1,h1⟩:=u 1 _ rfl
 obtain⟨y2,h2⟩:=u 2 _ rfl
 obtain⟨y3,h3⟩:=u 3 _ rfl
 obtain⟨B,e0,a0,M,k0⟩:=(rd9 w).rd enc base held n _ _ h0
 obtain⟨G,e1,a1,d1,W⟩:=(azE w).rd enc base held n _ _ h1
 obtain⟨I,V,a2,Z,k2⟩:=(asL w).rd enc base held n _ _ h2
 obtain⟨E,e3,Y,O,U⟩:=(Ok w).rd enc base held n _ _ h3
 obtain rfl:B=a0:=M
 obtain rfl:E=Y:=O
 have p0:=eB (s:=1) e0
 have p1:=eB (s:=1) e1
 have p2:=eB (s:=1) V
 have p3:=eB (s:=1) e3
 have hz:cs.drop 4=[]:=Cx.2 (by rw[J];exact zW (by kernel_rfl))
 refine⟨(⟨B,G,I,E⟩:cH),?_,(⟨B,a1,a2,E⟩:cN),⟨G,I,rfl,d1,Z⟩,k0,W,k2,U⟩
 have e:cs=cs.drop 0:=rfl
 rw[e]
 refine p0.trans ?_
 refine(gO _ p1).trans ?_
 refine(gO _ (gO _ p2)).trans ?_
 refine(gO _ (gO _ (gO _ p3))).trans ?_
 exact(gO _ (gO _ (gO _ (gO _ hz))))⟩
def asN:zp hH 24 (List cN) (λys:(List cN)=>∀y∈ys,yf y):=zp.slice Tryz.underlying24 (by kernel_rfl) asM
def azF:zp hH 85 gS Es:=λw=>⟨by kernel_rfl,λenc base held fuel cs x h=>by
 obtain⟨G,n,E⟩:=nV Tryz.underlying85 h
 obtain⟨y0,U⟩:=E 0 _ rfl
 obtain⟨y1,h1⟩:=E 1 _ rfl
 obtain⟨B,e0,O,I,Y⟩:=(alL w).rd enc base held n _ _ U
 obtain⟨u,M,W,V,J⟩:=(Ok w).rd enc base held n _ _ h1
 obtain rfl:u=W:=V
 have p0:=eB (s:=1) e0
 have p1:=eB (s:=1) M
 have Z:cs.drop 2=[]:=Cx.2 (by rw[G];exact zW (by kernel_rfl))
 refine⟨(⟨B,u⟩:jA),?_,(⟨O,u⟩:gS),⟨B,rfl,I⟩,Y,J⟩
 have e:cs=cs.drop 0:=rfl
 rw[e]
 refine p0.trans ?_
 refine(gO _ p1).trans ?_
 exact(gO _ (gO _ Z))⟩
def azG:zp hH 25 (List gS) (λys:(List gS)=>∀y∈ys,Es y):=zp.slice Tryz.underlying25 (by kernel_rfl) azF
def rd27:zp hH 27 cE acw:=λw=>⟨by kernel_rfl,λenc base held fuel cs x h=>by
 obtain⟨U,n,u⟩:=nV Tryz.underlying27 h
 obtain⟨y0,h0⟩:=u 0 _ rfl
 obtain⟨y1,h1⟩:=u 1 _ rfl
 obtain⟨y2,h2⟩:=u 2 _ rfl
 obtain⟨y3,h3⟩:=u 3 _ rfl
 obtain⟨y4,h4⟩:=u 4 _ rfl
 obtain⟨y5,h5⟩:=u 5 _ rfl
 obtain⟨B,e0,a0,V,k0⟩:=(azD w).rd enc base held n _ _ h0
 obtain⟨E,e1,a1,d1,k1⟩:=(alK w).rd enc base held n _ _ h1
 obtain⟨G,e2,a2,d2,k2⟩:=(alK w).rd enc base held n _ _ h2
 obtain⟨I,e3,a3,W,Y⟩:=(asN w).rd enc base held n _ _ h3
 obtain⟨M,e4,a4,d4,Z⟩:=(asN w).rd enc base held n _ _ h4
 obtain⟨J,e5,a5,O,k5⟩:=(azG w).rd enc base held n _ _ h5
 have p0:=eB (s:=1) e0
 have p1:=eB (s:=1) e1
 have p2:=eB (s:=1) e2
 have p3:=eB (s:=1) e3
 have p4:=eB (s:=1) e4
 have p5:=eB (s:=1) e5
 have hz:cs.drop 6=[]:=Cx.2 (by rw[U];exact zW (by kernel_rfl))
 refine⟨(⟨B,E,G,I,M,J⟩:bP),?_,(⟨a0,a1,a2,a3,a4,a5⟩:cE),⟨B,E,G,I,M,J,rfl,V,d1,d2,W,d4,O⟩,k0,k1,k2,Y,Z,k5⟩
 have e:cs=cs.drop 0:=rfl
 rw[e]
 refine p0.trans ?_
 refine(gO _ p1).trans ?_
 refine(gO _ (gO _ p2)).trans ?_
 refine(gO _ (gO _ (gO _ p3))).trans ?_
 refine(gO _ (gO _ (gO _ (gO _ p4)))).trans ?_
 refine(gO _ (gO _ (gO _ (gO _ (gO _ p5))))).trans ?_
 exact(gO _ (gO _ (gO _ (gO _ (gO _ (gO _ hz))))))⟩
def azH:zp hH 41 (List Int) (λys:(List Int)=>∀y∈ys,eZ y):=zp.slice Tryz.underlying41 (by kernel_rfl) Ok
def rd50:zp hH 50 aS acx:=λw=>⟨by kernel_rfl,λenc base held fuel cs x h=>by
 obtain⟨J,n,u⟩:=nV Tryz.underlying50 h
 obtain⟨y0,h0⟩:=u 0 _ rfl
 obtain⟨y1,h1⟩:=u 1 _ rfl
 obtain⟨y2,h2⟩:=u 2 _ rfl
 obtain⟨y3,h3⟩:=u 3 _ rfl
 obtain⟨B,e0,a0,M,k0⟩:=(Ok w).rd enc base held n _ _ h0
 obtain⟨E,e1,a1,d1,W⟩:=(Ok w).rd enc base held n _ _ h1
 obtain⟨G,V,a2,Z,k2⟩:=(Ok w).rd enc base held n _ _ h2
 obtain⟨I,e3,Y,O,U⟩:=(azH w).rd enc base held n _ _ h3
 obtain rfl:B=a0:=M
 obtain rfl:E=a1:=d1
 obtain rfl:G=a2:=Z
 have p0:=eB (s:=1) e0
 have p1:=eB (s:=1) e1
 have p2:=eB (s:=1) V
 have p3:=eB (s:=1) e3
 have hz:cs.drop 4=[]:=Cx.2 (by rw[J];exact zW (by kernel_rfl))
 refine⟨(⟨B,E,G,I⟩:aJ),?_,(⟨B,E,G,Y⟩:aS),⟨I,rfl,O⟩,k0,W,k2,U⟩
 have e:cs=cs.drop 0:=rfl
 rw[e]
 refine p0.trans ?_
 refine(gO _ p1).trans ?_
 refine(gO _ (gO _ p2)).trans ?_
 refine(gO _ (gO _ (gO _ p3))).trans ?_
 exact(gO _ (gO _ (gO _ (gO _ hz))))⟩
end Go.Proofs.YtpdlpabnlkofmaaGreatDoor
namespace Go.Fw
theorem gv.below{w w':World}(h:gv aZ w w'):Go.RowKit.Below w.heap.size w w':=⟨h.1,h.2,h.3,h.4,λb hb=>h.5 b hb λx=>x⟩
end Go.Fw

/-
  Part 8.
-/
import Derived.Test.YtpdlpabnlkofmaaGreatDoorR5x7
set_option maxHeartbeats 8000000
set_option linter.all false
set_option maxRecDepth 100000
open Go.Fw.Flat renaming val->j0,enc->kp,sz->m8
open ByteArray renaming mk->kE
open List renaming getElem?_eq_some_iff->kO,mem_of_getElem?->la,take_of_length_le->ld,length_append->l1,length_take->l2,length_singleton->mv,append_assoc->n5,mem_map->oG,append_nil->pd,nil_append->tx,eraseIdx_eq_take_drop_succ->vE,drop_eq_nil_iff->BG,mem_of_mem_eraseIdx->H5,drop_of_length_le->Jg
open Nat renaming zero_le->l6,le_refl->pb,zero_add->u4,le_trans->xe,le_of_eq->AU,lt_succ_self->K9,not_lt_zero->Mh
open Go.Fw.Deep renaming dr->ml
open Go.Instr renaming build->mL,sliceAt->ob,field->aaP
open Int renaming toNat_natCast->qb
open Decidable renaming not_not->uh
open Go.Value renaming slice->zH,tuple->Ej
namespace Go.Proofs.YtpdlpabnlkofmaaGreatDoor
open Go.Fw
def ahq(s:ie):pr hH (aaP 114 (j0 s) 0)=some (hZ s.bZ):=by
 obtain⟨a,b,c,d,e⟩:=s
 kernel_rfl
def C101(K:hM)(p:cB)(pv:bP)(room c:Int)(lv:Value)(l:List aS)(w:World)(G:∀w',Ext w w'->K w')(hp:IB K pv p)(hz:PZ p)(hl:GS K lv l)(Ag:l.length<=1000)(D9:∀q∈l,q.cut.length<=1000) :
  CR 101 [j0 pv,hZ room,hZ c,lv] w (λv w'=>(eP p room c≠0/\v=.tuple #[.pointer none,.slice none 0 0,hZ (eP p room c)]/\Ext w w')\/
  (eP p room c=0/\∃(b:Nat) (X:hM) (ov:Value),v=.tuple #[.pointer (some ⟨b,0,none⟩),ov,hZ (vS c (iw p room) [] l).2.2]/\wH p 1000 (vS c (iw p room) [] l).1/\(vS c (iw p room) [] l).1.mem.dW=eW p/\kV (sep (gu (λw=>K w/\X w) b (vS c (iw p room) [] l).1) (sep (bH ov (vS c (iw p room) [] l).2.1) (eF X))) w w')):=by
 have u:=St.start w;refine eZ Tryz.func101 ?_;refine cG (x:=pv) u (λb4 _ u=>aD eg u.At (dM aq8 (C12 K p pv room _ (λ_ e=>G _ (u.aG.then e)) hp hz) ?_));rintro v21 w2 (⟨h1,rfl,M⟩|⟨W,h1,rfl,M⟩|⟨W,hr,b,X,rfl,cJ⟩)
 .have u:=u.ext M;refine aN rfl (aN rfl (bX (aC (λ_=>?_) λh=>absurd h1 h)));have e:eP p room c=fk p:=by unfold eP;rw[ej h1]
  rw[e];exact .inl ⟨h1,rfl,u.drop.aG⟩
 .have u:=u.ext M;refine aN rfl (aN rfl (bX (aC (λ_=>?_) λh=>absurd (by decide:(1:Int)≠0) h)));have e:eP p room c=1:=by unfold eP;rw[ei (by rw[W];decide),ej h1]
  rw[e];exact .inl ⟨dD,rfl,u.drop.aG⟩
 have zq:=vR W;have u:=(u.made cJ).split;refine aN rfl (aN rfl (bX (aC (λh=>absurd rfl h) λ_=>?_)));refine⟨λjv w'=>jv=.bool (decide (c<0\/8<c))/\w'=w2,?_,?_⟩
 .exact aR (aC (λh=>⟨vb (ew (.inl h)).symm,rfl⟩) λ_=>cN ⟨vb (ga.2 bO),rfl⟩)
 rintro _ _ ⟨rfl,rfl⟩ _;refine aC (λh2=>?_) (λh2=>?_)
 .have e:eP p room c=1:=by unfold eP;rw[ei (by rw[W];decide),ei bO,ej h2]
  rw[e];exact .inl ⟨dD,rfl,u.drop.drop.drop.aG⟩
 have hse:eP p room c=0:=by unfold eP;rw[ei (by rw[W];decide),ei bO,ei h2]
 obtain⟨ts,Z⟩:=hl;have hn:ts.length=l.length:=(Z _ (G _ u.aG)).2.1
 have I:∀(k:Nat) (m:gU) (ov:Value) (out:List cI) (f:Int) (w':World),k<=l.length->wH p k m->m.mem.dW=eW p->(vS c (iw p room) [] l)=(m,out,f)->St w aZ [bH ov out,gu (λw=>K w/\X w) b m,eF X,bY b4 (kp pv)] w'->
   (eP p room c≠0/\Ej #[.pointer (some ⟨b,0,none⟩),ov,hZ f]=.tuple #[.pointer none,.slice none 0 0,hZ (eP p room c)]/\Ext w w')\/
   (eP p room c=0/\∃(b':Nat) (X:hM) (U:Value),Ej #[.pointer (some ⟨b,0,none⟩),ov,hZ f]=.tuple #[.pointer (some ⟨b',0,none⟩),U,hZ (vS c (iw p room) [] l).2.2]/\wH p 1000 (vS c (iw p room) [] l).1/\(vS c (iw p room) [] l).1.mem.dW=eW p/\kV (sep (gu (λw=>K w/\X w) b' (vS c (iw p room) [] l).1) (sep (bH U (vS c (iw p room) [] l).2.1) (eF X))) w w'):=by
  intro k m ov out f w' hk B hf M u;rw[M];have u:=St.join u.p3.drop.p2.p1;exact .inr ⟨hse,b,X,ov,rfl,B.mono bO,hf,(St.join u.p1).fresh⟩
 refine aK fO (Z _ (G _ u.aG)).1 ?_
 refine⟨λmm o y w'=>∃(k:Nat) (m:gU) (out:List cI),y=hZ (k:Int)/\mm=ts.length-k/\k<=l.length/\out.length<=k/\wH p k m/\m.mem.dW=eW p/\(vS c (iw p room) [] l)=vS c m out (l.drop k)/\St w aZ [bH o out,gu (λw=>K w/\X w) b m,eF X,bY b4 (kp pv)] w',
  ⟨_,0,iw p room,[],rfl,rfl,l6 _,pb _,wH.new hz zq hr,rfl,rfl,u.eM⟩,?_⟩
 rintro mm ov _ w4 ⟨k,m,out,rfl,rfl,hk,ho,B,Dt,E,u⟩ _;refine aR (aC (λc1=>?_) λc1=>?_);rotate_left
 .rw[Jg bO]at E;exact I k m ov out 0 w4 hk B Dt E u
 obtain⟨q,hq⟩:=gx l (i:=k) bO;obtain⟨tq,Ox⟩:=gx ts (i:=((k:Nat):Int).toNat) bO;have Y:∀w',K w'->ml w' tq q:=λw' h=>(Z w' h).2.2 k tq q Ox hq;obtain⟨V,rfl,_⟩:=Y _ (G _ u.aG)
 have hgc:∀w',K w'->dA (λ_=>True) w' (j0 V) q.cut:=λw' h=>by
  obtain⟨gc2,e,h3⟩:=Y w' h;cases e
  exact DL.flat h3
 have hqc:=D9 q (la hq)
 have Qa:l.drop k=q::l.drop (k+1):=by
  obtain⟨h1,h2⟩:=kO.1 hq;rw[List.drop_eq_getElem_cons h1,h2]
 rw[Qa]at E;have rB:=B.mb.mono (b:=1000000) bO;have De:=B.cr;refine aQ fO (Z _ (G _ u.aG)).1 bO Ox (λq37 h37=>aD j8 h37 (aM u B2 λb15 _ u=>aJ (x:=(⟨q.kind,q.t,q.i,V⟩:aI)) u j8 rfl rfl λ_ u=>?_));refine⟨λjv w'=>jv=.bool (decide (q.kind=3/\c<=m.bZ))/\St w aZ [bY b15 (kp (⟨q.kind,q.t,q.i,V⟩:aI)),bH ov out,gu (λw=>K w/\X w) b m,eF X,bY b4 (kp pv)] w',?_,?_⟩
 .exact aA mZ (aB (v:=hZ q.kind) bL u.hb rfl (aH (aC (λJ=>aV ajJ u (C68 (λw=>K w/\X w) b m _ u.p2.has (λ_ e=>⟨G _ (u.aG.then e),(u.ext e).p3.eF⟩) B.ok) λ_ _ u=>pop (ahq (iU m)) (cR ⟨vb (ga.2 ⟨λh=>⟨J,h⟩,λh=>h.2⟩),u⟩)) λJ=>⟨vb (fP λh=>J h.1).symm,u⟩)))
 rintro _ w8 ⟨rfl,u⟩ _;refine aC (λJ=>?_) (λJ=>?_)
 .rw[vS,ej J]at E;exact I k m ov out 14 w8 hk B Dt E u.drop
 rw[vS,ei J]at E;refine aD (x:=(⟨q.kind,q.t,q.i,V⟩:aI)) j8 u.At (bF aq6 u.p2 (H':=λ_=>gu (λw=>K w/\X w) b (oP m q).1) (Φ:=λv _=>v=.tuple #[j0 (oP m q).2.1,hZ (oP m q).2.2]) (λF2 ef dX=>?_) ?_)
 .exact C24 (λw=>K w/\X w) b m q V F2 _ ef (λw' hc=>⟨G _ (dX w' hc).aG,(dX w' hc).p2.eF⟩) B.ok (B.pr▸zq) rB bO (λw' hc=>hgc _ (G _ (dX w' hc).aG)) hqc
 rintro _ _ rfl u;refine aN rfl (aN rfl (aM u mz λb16 _ u=>aJ (x:=(oP m q).2.1) u fo rfl rfl λw11 u=>bX ?_));have Gq:=B.step (q:=q) zq;have O:=(Rb B.ok q).trans Dt;refine aC (λc3=>?_) (λc3=>?_)
 .rw[ej c3]at E;exact I (k+1) _ ov out _ w11 bO Gq O E u.drop.p1.drop.p1
 rw[ei c3]at E;refine aD (x:=(oP m q).2.1) fo u.At (bD [(oP m q).2.1] u acw rfl rfl (dL rfl) λs64 _ u=>?_);have alA:=u.dS;refine bJ u.p4 acw alA (by rw[mv];omega) dD (λs65 _ u=>aO bO ?_);refine⟨ts.length-(k+1),bO,k+1,_,out++[(oP m q).2.1],rfl,rfl,bO,by rw[l1,mv];omega,Gq,O,E,?_⟩;exact u.p1.drop.p1.drop.p2.drop
def C40(K:hM)(p:cB)(pv:bP)(room c:Int)(lv:Value)(l:List aS)(w:World)(E:∀w',Ext w w'->K w')(J:IB K pv p)(Z:PZ p)(W:GS K lv l)(V:l.length<=1000)(U:∀q∈l,q.cut.length<=1000) :
  CR 40 [j0 pv,hZ room,hZ c,lv] w (λv w'=>∃(ev:aI) (ov:Value),v=.tuple #[j0 ev,ov,hZ (BJ p room c l).2.2.1,hZ (BJ p room c l).2.2.2]/\kV (sep (eF λw=>ml w ev (BJ p room c l).1) (bH ov (BJ p room c l).2.1)) w w'):=by
 have u:=St.start w;refine eZ Tryz.func40 ?_;refine cG (x:=pv) u (λb4 _ u=>aM u gd λb8 _ u=>have u:=u.enc (cs':=kp (⟨0,0,0,bW⟩:aI)) rfl;aD eg u.p1.At (dM asw (C101 K p pv room c lv l _ (λ_ e=>E _ (u.aG.then e)) J Z W V U) ?_));rintro Y w3 (⟨h1,rfl,M⟩|⟨h1,b,X,ov,rfl,B,Dt,I⟩)
 .have u:=u.ext M;refine aN rfl (aN rfl (aN rfl (bX (aC (λ_=>?_) λh=>absurd h1 h))));refine pop rh (aK acw (dA.nil (α:=cI) (λ_=>True) w) (aJ (x:=(⟨0,0,0,bW⟩:aI)) u eO rfl rfl λO u=>aD (x:=(⟨0,0,0,bW⟩:aI)) eO u.At ?_));rw[alw h1];exact⟨_,_,rfl,(St.join ((u.drop.drop.eM (α:=cI)).fr (Φ:=λw=>ml w (⟨0,0,0,bW⟩:aI) zE) wx)).fresh⟩
 have u:=(((u.made I).split).p1.split);refine aN rfl (aN rfl (aN rfl (bX (aC (λh2=>?_) λh2=>?_))))
 .refine pop rh (aK acw u.dS (aJ (x:=(⟨0,0,0,bW⟩:aI)) u.p3 eO rfl rfl λO u=>aD (x:=(⟨0,0,0,bW⟩:aI)) eO u.At ?_));rw[alx h1 h2];exact⟨_,_,rfl,(St.join ((u.drop.drop.drop.drop.drop.eM (α:=cI)).fr (Φ:=λw=>ml w (⟨0,0,0,bW⟩:aI) zE) wx)).fresh⟩
 have h3:(vS c (iw p room) [] l).2.2=0:=uh.1 h2;refine aD eg u.p4.At (dM asx (C102 (λw=>K w/\X w) b (vS c (iw p room) [] l).1 pv _ u.p2.has (λ_ e=>⟨E _ (u.aG.then e),(u.ext e).p1.eF⟩) B.ok (Dt.trans (by rw[B.pr])) (by rw[B.pr];exact J.pr _ (E _ u.aG))) ?_);rintro _ _ ⟨G,rfl,I⟩;have u:=u.made I;refine aJ (x:=G) u.p4 eO rfl rfl (λ_ u=>aD (x:=G) eO u.At ?_);rw[abg h1 h3];exact⟨G,ov,rfl,(St.join u.drop.p2.drop.p2.drop.p2.drop).fresh⟩
variable (w:World) (K:Value->hM)
def P97:dI:=λi=>match i with
 | 2=>(.op 0 [] (.op 1 [] (.op 3 [] (.op 4 [] (.op 5 [] (.op 6 [] (.op 7 [] (.op 8 [] (.op 9 [] (.op 10 [] (.op 11 [] (.op 12 [] (.op 13 [] (.alt 2 [1,6,9,13] (.alt 14 [1,6,9] (.op 15 [] (.alt 16 [1] (.of [(17,[]),(18,[1,6,9,13]),(19,[])]) (.alt 18 [1,6,9,13] (.of [(16,[1]),(17,[]),(19,[])]) .stop))) (.alt 18 [1,6,9,13] (.of [(14,[1,6,9]),(15,[]),(16,[1]),(17,[]),(19,[])]) .stop)) (.alt 14 [1,6,9] (.op 15 [] (.alt 2 [1,6,9,13] (.alt 16 [1] (.of [(17,[]),(18,[1,6,9,13]),(19,[])]) (.alt 18 [1,6,9,13] (.of [(16,[1]),(17,[]),(19,[])]) .stop)) (.alt 18 [1,6,9,13] (.of [(2,[1,6,9,13]),(16,[1]),(17,[]),(19,[])]) .stop))) (.alt 18 [1,6,9,13] (.alt 2 [1,6,9,13] (.of [(14,[1,6,9]),(15,[]),(16,[1]),(17,[]),(19,[])]) (.alt 14 [1,6,9] (.of [(15,[]),(2,[1,6,9,13]),(16,[1]),(17,[]),(19,[])]) .stop)) .stop))))))))))))))))
 | _=>.nil
theorem azw:PL 97:=dJ Tryz.func97
end Go.Proofs.YtpdlpabnlkofmaaGreatDoor
namespace Go.Proofs.YtpdlpabnlkofmaaGreatDoor
open Go.Fw
def Rc{p:cB}(hc:GQ p):yF (eW p):=λv u=>by
 obtain⟨c,E,rfl⟩:=oG.1 u
 have h:iS 4294967296 c=false:=by
  rcases List.mem_append.1 E with h1|h1
  .obtain⟨l,B,h2⟩:=List.mem_flatten.1 h1
   exact(hc.f.lines l B).2 c h2
  .exact hc.f.iR c h1
 unfold iS at h
 simp only[Bool.or_eq_false_iff,decide_eq_false_iff_not]at h
 show -9223372036854775808<=c.n/\c.n<=9223372036854775807
 omega
def afh{p:cB}{room:Int}(hc:GQ p):Kg (iw p room):=by
 have h:=Rc hc
 exact Kg.begin (m:=xM p room) ⟨h,h.take _,h,λk x u=>by cases u⟩
def vU(l:List Bool)(j:Nat):Int×Int:=if vk (l.drop j)<(l.drop j).length then(2,((j+vk (l.drop j):Nat):Int))else(1,0)
theorem alB{l:List Bool}{j:Nat}{b:Bool}(h:l[j]?=some b)(hb:b=false):vU l j=(2,(j:Int)):=by
 unfold vU
 rw[IC h,hb,ej (by show 0<_;simp)];rfl
theorem alC{l:List Bool}{j:Nat}{b:Bool}(h:l[j]?=some b)(hb:b=true):vU l j=vU l (j+1):=by
 have e:vk (l.drop j)=vk (l.drop (j+1))+1:=by rw[IC h,hb];rfl
 grind[vU]
theorem alD{l:List Bool}{j:Nat}(h:l.length<=j):vU l j=(1,0):=by grind[vU]
theorem alE{m:gU}(h:¬ m.fault≠0)(h2:mQ m=false)(h3:lD m=true):ot m=vU (fe m) 0:=by
 unfold vU
 rw[List.drop_zero,u4]
 by_cases c:vk (fe m)<(fe m).length
 .rw[ej c]
  have e:yJ (fe m)=vk (fe m):=by unfold yJ;omega
  rw[abd h h2 h3 bO,e]
 rw[ei c]
 have e:yJ (fe m) = -1:=by unfold yJ;omega
 rw[abe h h2 h3 bO]
def C97(K:hM)(p:Nat)(m:gU)(w:World)(hm:Has (qT K p m) w)(hw:∀w',Ext w w'->K w')(O:oN m)(hvo:Kg m)(Dt:m.mem.dW=eW m.p):CR 97 [.pointer (some ⟨p,0,none⟩)] w (λv w'=>∃ev:aI,v=j0 ev/\kV (eF λw=>ml w ev (BI m)) w w'):=by
 obtain⟨a,B⟩:=qT.rd hm;have G:=B.b.cell (o:=8) rfl;have iV:=qS m.p;have hcb:=O.pz.dT;have azn:m.mem.l.length=(iv m.p).length:=by rw[O.mem.ll,Dt];unfold eW;grind
 have T6:(iv m.p).length<=20:=by have:=O.mem.fl;have:=O.mem.ll;omega
 obtain⟨ov,fv,lv,kv,wv,ws,j3,E,hmo,hmf,CM,ash,hmw⟩:=B.mem.ex;have Fe:(fe m).length<=1000000:=by grind[fe]
 have u:=St.start w;refine oL Tryz.func97 (pl:=P97) ?_;refine aM u gd (λb2 _ u=>have u:=u.enc (cs':=kp (⟨0,0,0,bW⟩:aI)) rfl;aV ayP u (C74 K p m _ (hm.ext u.aG) (λ_ e=>hw _ (u.aG.then e)) O) λ_ U u=>dU ayQ u (C75 K p m _ (hm.ext u.aG) (λ_ e=>hw _ (u.aG.then e)) O hvo Dt) λY _ cJ u=>aM u yj λb3 _ u=>aJ (x:=iU m) u yT rfl rfl λ_ u=>?_);have u:=u.drew;refine⟨λjv w'=>∃(J:Nat) (sv:SV),jv=.pointer (some ⟨J,0,none⟩)/\St w aZ [bY J (kp (⟨0,0,m.bZ,sv⟩:aI)),bH (j0 (sv:SV)) (m.mem.l.take (eB m.p).toNat),bY b3 (kp (iU m)),bH Y (fe m),bY b2 (kp (⟨0,0,0,bW⟩:aI))] w',?_,?_⟩
 .refine aA Lh (aB (v:=hZ m.bZ) bL u.hb rfl (aE (aA tF (bN qt (G.ext u.aG) (aE (aA se (bN eh ((E.cell (o:=2) rfl).ext u.aG) (aE (aA oU (qm a.pv eg (mW.ext B.b u.aG) rfl ?_))))))))));refine⟨bD ([]:List Int) u cS rfl rfl (dL rfl) (λW _ u=>⟨aF bL (u.p1.hb.cell rfl),⟨aF qt (G.ext u.aG),⟨aF eh ((E.cell (o:=2) rfl).ext u.aG),⟨jB a.pv eg (mW.ext B.b u.aG) rfl,⟨aV IQ u (C62 m.p a.pv _ (B.uk.pr _ (hw _ u.aG)) O.pz) (λ_ U u=>⟨aF bL (u.p1.hb.cell rfl),⟨aF qt (G.ext u.aG),⟨aF eh ((E.cell (o:=2) rfl).ext u.aG),l9 cS CM bO bO λV M=>⟨?_,?_,trivial⟩⟩⟩⟩),?_,trivial⟩⟩⟩⟩⟩),aV IQ u (C62 m.p a.pv _ (B.uk.pr _ (hw _ u.aG)) O.pz) (λw23 U u=>⟨aF bL (u.hb.cell rfl),⟨aF qt (G.ext u.aG),⟨aF eh ((E.cell (o:=2) rfl).ext u.aG),l9 cS CM bO bO λV M=>⟨bD ([]:List Int) u cS rfl rfl (dL rfl) (λW w24 u=>⟨aF bL (u.p1.hb.cell rfl),⟨aF qt (G.ext u.aG),⟨aF eh ((E.cell (o:=2) rfl).ext u.aG),⟨jB a.pv eg (mW.ext B.b u.aG) rfl,⟨?_,?_,trivial⟩⟩⟩⟩⟩),?_,trivial⟩⟩⟩⟩),?_,trivial⟩
  .refine bJ u cS (M.ext u.aG) (by rw[l2];simp;omega) dD (λI _ u=>?_);refine⟨aF bL (u.p1.hb.cell rfl),?_⟩;rw[tx]at u;obtain⟨sv,rfl⟩:=u.fK;refine pop (lq m.bZ _ _ _) (aM u gd λJ _ u=>?_);refine⟨aF bL (u.p2.hb.cell rfl),?_⟩;refine⟨aF qt (G.ext u.aG),?_⟩;refine⟨aF eh ((E.cell (o:=2) rfl).ext u.aG),?_⟩;refine⟨jB a.pv eg (mW.ext B.b u.aG) rfl,?_⟩;exact aJ (x:=(⟨0,0,m.bZ,sv⟩:aI)) u eO rfl rfl (λ_ u=>⟨_,_,rfl,u⟩)
  .refine aM u gd (λJ _ u=>?_);refine⟨aF bL (u.p2.hb.cell rfl),?_⟩;refine⟨aF qt (G.ext u.aG),?_⟩;refine⟨aF eh ((E.cell (o:=2) rfl).ext u.aG),?_⟩;refine⟨jB a.pv eg (mW.ext B.b u.aG) rfl,?_⟩;refine bJ u.p1 cS (M.ext u.aG) (by rw[l2];simp;omega) dD (λI _ u=>?_);refine⟨aF bL (u.p2.hb.cell rfl),?_⟩;rw[tx]at u;obtain⟨sv,rfl⟩:=u.fK;exact pop (lq m.bZ _ _ _) (aJ (x:=(⟨0,0,m.bZ,sv⟩:aI)) u.p1 eO rfl rfl λ_ u=>⟨_,_,rfl,u⟩)
  .refine aM u gd (λJ _ u=>?_);refine⟨aF bL (u.p2.hb.cell rfl),?_⟩;refine⟨aF qt (G.ext u.aG),?_⟩;refine⟨aF eh ((E.cell (o:=2) rfl).ext u.aG),?_⟩;refine⟨jB a.pv eg (mW.ext B.b u.aG) rfl,?_⟩;refine aV IQ u (C62 m.p a.pv _ (B.uk.pr _ (hw _ u.aG)) O.pz) (λw20 U u=>?_);refine⟨aF bL (u.p2.hb.cell rfl),?_⟩;refine⟨aF qt (G.ext u.aG),?_⟩;refine⟨aF eh ((E.cell (o:=2) rfl).ext u.aG),?_⟩;refine l9 cS CM bO bO (λV M=>bJ u.p1 cS (M.ext u.aG) (by rw[l2];simp;omega) dD λI w21 u=>?_)
   refine⟨aF bL (u.p2.hb.cell rfl),?_⟩;rw[tx]at u;obtain⟨sv,rfl⟩:=u.fK;exact pop (lq m.bZ _ _ _) (aJ (x:=(⟨0,0,m.bZ,sv⟩:aI)) u.p1 eO rfl rfl λ_ u=>⟨_,_,rfl,u⟩)
  .refine bJ u cS (M.ext u.aG) (by rw[l2];simp;omega) dD (λI w25 u=>?_);refine⟨aF bL (u.p1.hb.cell rfl),?_⟩;rw[tx]at u;obtain⟨sv,rfl⟩:=u.fK;refine pop (lq m.bZ _ _ _) (aM u gd λJ w26 u=>?_);refine⟨aF bL (u.p2.hb.cell rfl),?_⟩;refine⟨aF qt (G.ext u.aG),?_⟩;refine⟨aF eh ((E.cell (o:=2) rfl).ext u.aG),?_⟩;refine⟨jB a.pv eg (mW.ext B.b u.aG) rfl,?_⟩;exact aJ (x:=(⟨0,0,m.bZ,sv⟩:aI)) u eO rfl rfl (λ_ u=>⟨_,_,rfl,u⟩)
  .refine aM u gd (λJ _ u=>?_);refine⟨aF bL (u.p2.hb.cell rfl),?_⟩;refine⟨aF qt (G.ext u.aG),?_⟩;refine⟨aF eh ((E.cell (o:=2) rfl).ext u.aG),?_⟩;refine⟨jB a.pv eg (mW.ext B.b u.aG) rfl,?_⟩;refine bJ u.p1 cS (M.ext u.aG) (by rw[l2];simp;omega) dD (λI _ u=>?_);refine⟨aF bL (u.p2.hb.cell rfl),?_⟩;rw[tx]at u;obtain⟨sv,rfl⟩:=u.fK;exact pop (lq m.bZ _ _ _) (aJ (x:=(⟨0,0,m.bZ,sv⟩:aI)) u.p1 eO rfl rfl λ_ u=>⟨_,_,rfl,u⟩)
  .refine aM u gd (λJ _ u=>?_);refine⟨aF bL (u.p1.hb.cell rfl),?_⟩;refine⟨aF qt (G.ext u.aG),?_⟩;refine⟨aF eh ((E.cell (o:=2) rfl).ext u.aG),?_⟩;refine⟨jB a.pv eg (mW.ext B.b u.aG) rfl,?_⟩;refine bD ([]:List Int) u cS rfl rfl (dL rfl) (λW _ u=>?_);refine⟨aF bL (u.p2.hb.cell rfl),?_⟩;refine⟨aF qt (G.ext u.aG),?_⟩;refine⟨aF eh ((E.cell (o:=2) rfl).ext u.aG),?_⟩;refine⟨jB a.pv eg (mW.ext B.b u.aG) rfl,?_⟩;refine bJ u cS (M.ext u.aG) (by rw[l2];simp;omega) dD (λI _ u=>?_);refine⟨aF bL (u.p2.hb.cell rfl),?_⟩
   rw[tx]at u;obtain⟨sv,rfl⟩:=u.fK;exact pop (lq m.bZ _ _ _) (aJ (x:=(⟨0,0,m.bZ,sv⟩:aI)) u.p1 eO rfl rfl λ_ u=>⟨_,_,rfl,u⟩)
  refine aM u gd (λJ _ u=>?_);refine⟨aF bL (u.p1.hb.cell rfl),?_⟩;refine⟨aF qt (G.ext u.aG),?_⟩;refine⟨aF eh ((E.cell (o:=2) rfl).ext u.aG),?_⟩;refine⟨jB a.pv eg (mW.ext B.b u.aG) rfl,?_⟩;refine⟨?_,?_,trivial⟩
  .refine bD ([]:List Int) u cS rfl rfl (dL rfl) (λW _ u=>?_);refine⟨aF bL (u.p2.hb.cell rfl),?_⟩;refine⟨aF qt (G.ext u.aG),?_⟩;refine⟨aF eh ((E.cell (o:=2) rfl).ext u.aG),?_⟩;refine⟨jB a.pv eg (mW.ext B.b u.aG) rfl,?_⟩;refine aV IQ u (C62 m.p a.pv _ (B.uk.pr _ (hw _ u.aG)) O.pz) (λ_ U u=>?_);refine⟨aF bL (u.p2.hb.cell rfl),?_⟩;refine⟨aF qt (G.ext u.aG),?_⟩;refine⟨aF eh ((E.cell (o:=2) rfl).ext u.aG),?_⟩;refine l9 cS CM bO bO (λV M=>bJ u cS (M.ext u.aG) (by rw[l2];simp;omega) dD λI _ u=>?_)
   refine⟨aF bL (u.p2.hb.cell rfl),?_⟩;rw[tx]at u;obtain⟨sv,rfl⟩:=u.fK;exact pop (lq m.bZ _ _ _) (aJ (x:=(⟨0,0,m.bZ,sv⟩:aI)) u.p1 eO rfl rfl λ_ u=>⟨_,_,rfl,u⟩)
  refine aV IQ u (C62 m.p a.pv _ (B.uk.pr _ (hw _ u.aG)) O.pz) (λ_ U u=>?_);refine⟨aF bL (u.p1.hb.cell rfl),?_⟩;refine⟨aF qt (G.ext u.aG),?_⟩;refine⟨aF eh ((E.cell (o:=2) rfl).ext u.aG),?_⟩;refine l9 cS CM bO bO (λV M=>bD ([]:List Int) u cS rfl rfl (dL rfl) λW _ u=>?_);refine⟨aF bL (u.p2.hb.cell rfl),?_⟩;refine⟨aF qt (G.ext u.aG),?_⟩;refine⟨aF eh ((E.cell (o:=2) rfl).ext u.aG),?_⟩;refine⟨jB a.pv eg (mW.ext B.b u.aG) rfl,?_⟩;refine bJ u cS (M.ext u.aG) (by rw[l2];simp;omega) dD (λI _ u=>?_)
  refine⟨aF bL (u.p2.hb.cell rfl),?_⟩;rw[tx]at u;obtain⟨sv,rfl⟩:=u.fK;exact pop (lq m.bZ _ _ _) (aJ (x:=(⟨0,0,m.bZ,sv⟩:aI)) u.p1 eO rfl rfl λ_ u=>⟨_,_,rfl,u⟩)
 rintro _ _ ⟨J,sv,rfl,u⟩ _
 have Z:∀w',St w aZ [bY b2 (kp (⟨(ot m).1,(ot m).2,m.bZ,sv⟩:aI)),bY J (kp (⟨(ot m).1,(ot m).2,m.bZ,sv⟩:aI)),bH (j0 (sv:SV)) (m.mem.l.take (eB m.p).toNat),bY b3 (kp (iU m)),bH Y (fe m)] w'->∃ev:aI,j0 (⟨(ot m).1,(ot m).2,m.bZ,sv⟩:aI)=j0 ev/\kV (eF λw=>ml w ev (BI m)) w w':=λw' u=>by
  have u:=u.drop.drop.p1.drop.p1.drop.freeze.dN (Ψ:=λw=>ml w (⟨(ot m).1,(ot m).2,m.bZ,sv⟩:aI) (BI m)) (λ_ h=>⟨sv,rfl,DL.j4 h⟩);exact⟨_,rfl,u.fresh⟩
 refine aA AE (aB (v:=hZ m.fault) bL u.p2.hb rfl (bX (aC (λc1=>?_) λc1=>?_)))
 .rw[abb c1]at Z;exact aA jy (aT u bL (dL rfl) rfl λ_ u=>aA AE (aB (v:=hZ m.fault) bL u.p2.hb rfl (aA qk (aT u bL (dL rfl) rfl λ_ u=>aD (x:=(⟨(3,m.fault).1,(3,m.fault).2,m.bZ,sv⟩:aI)) eO u.At (aJ (x:=(⟨(3,m.fault).1,(3,m.fault).2,m.bZ,sv⟩:aI)) u.p4 eO rfl rfl λ_ u=>aD (x:=(⟨(3,m.fault).1,(3,m.fault).2,m.bZ,sv⟩:aI)) eO u.At (Z _ u))))))
 refine aA qw (aB (v:=.bool (mQ m)) AB u.p2.hb rfl (aY (λc2=>?_) λc2=>?_))
 .rw[abc c1 c2]at Z;exact aA jy (aT u bL (dL rfl) rfl λ_ u=>aD (x:=(⟨((4,0):Int×Int).1,((4,0):Int×Int).2,m.bZ,sv⟩:aI)) eO u.At (aJ (x:=(⟨((4,0):Int×Int).1,((4,0):Int×Int).2,m.bZ,sv⟩:aI)) u.p4 eO rfl rfl λ_ u=>aD (x:=(⟨((4,0):Int×Int).1,((4,0):Int×Int).2,m.bZ,sv⟩:aI)) eO u.At (Z _ u)))
 refine aA qu (aB (v:=.bool (lD m)) AB u.p2.hb rfl (bR (aY (λc3=>?_) λc3=>?_)))
 .rw[abf c1 c2 (by simpa using c3)]at Z;exact aD (x:=(⟨((0,0):Int×Int).1,((0,0):Int×Int).2,m.bZ,sv⟩:aI)) eO u.At (aJ (x:=(⟨((0,0):Int×Int).1,((0,0):Int×Int).2,m.bZ,sv⟩:aI)) u.p4 eO rfl rfl λ_ u=>aD (x:=(⟨((0,0):Int×Int).1,((0,0):Int×Int).2,m.bZ,sv⟩:aI)) eO u.At (Z _ u))
 rw[alE c1 c2 (by simpa using c3)]at Z;refine aA jy (aT u bL (dL rfl) rfl λw23 u=>aK uH u.p3.dS (fh bO ?_));refine⟨λmm y w'=>∃j:Nat,y=hZ ((j:Int)-1)/\mm=j/\j<=(fe m).length/\St w aZ [bY J (kp (⟨(vU (fe m) j).1,(vU (fe m) j).2,m.bZ,sv⟩:aI)),bH (j0 (sv:SV)) (m.mem.l.take (eB m.p).toNat),bY b3 (kp (iU m)),bH Y (fe m),bY b2 (kp (⟨0,0,0,bW⟩:aI))] w',⟨_,(fe m).length,rfl,rfl,pb _,by rw[alD (pb _)];exact u⟩,?_⟩;rintro j _ w24 ⟨_,rfl,rfl,hj,u⟩ _;refine cR (aC (λc4=>?_) λc4=>?_)
 rotate_left
 .obtain rfl:j=0:=bO
  exact aD (x:=(⟨(vU (fe m) 0).1,(vU (fe m) 0).2,m.bZ,sv⟩:aI)) eO u.At (aJ (x:=(⟨(vU (fe m) 0).1,(vU (fe m) 0).2,m.bZ,sv⟩:aI)) u.p4 eO rfl rfl λ_ u=>aD (x:=(⟨(vU (fe m) 0).1,(vU (fe m) 0).2,m.bZ,sv⟩:aI)) eO u.At (Z _ u))
 obtain⟨i,rfl⟩:∃i,j=i+1:=⟨j-1,bO⟩;rw[show(((i+1:Nat):Int)-1)=(i:Int)from bO];obtain⟨e,U⟩:=gx (fe m) (i:=((i:Nat):Int).toNat) bO;refine⟨λw'=>St w aZ [bY J (kp (⟨(vU (fe m) i).1,(vU (fe m) i).2,m.bZ,sv⟩:aI)),bH (j0 (sv:SV)) (m.mem.l.take (eB m.p).toNat),bY b3 (kp (iU m)),bH Y (fe m),bY b2 (kp (⟨0,0,0,bW⟩:aI))] w',?_,?_⟩;rotate_left
 .intro w26 u _;exact fh bO ⟨_,K9 _,i,rfl,rfl,bO,u⟩
 refine aQ uH u.p3.dS bO U (λq hq=>aD AB hq ?_);rw[qb]at U;refine bR (aY (λc5=>?_) λc5=>?_)
 .rw[alB U (by simpa using c5)];exact aA jy (aT u bL (dL rfl) rfl λ_ u=>aA qk (aT u bL (dL rfl) rfl λ_ u=>u))
 rw[alC U (by simpa using c5)];exact u
structure tg(p:cB)(n:Nat)(m:gU):Prop where
 go:wH p n m
 vo:Kg m
 fi:m.mem.dW=eW p
def tg.step{p:cB}{n:Nat}{m:gU}{q:aS}(h:tg p n m)(hc:GQ p):tg p (n+1) (oP m q).1:=⟨h.go.step hc,h.vo.do,(Rb h.go.ok q).trans h.fi⟩
def tg.new{p:cB}{room:Int}(u:PZ p)(hc:GQ p)(B:1<=room/\room<=16):tg p 0 (iw p room):=⟨wH.new u hc B,afh hc,rfl⟩
def tg.mono{p:cB}{a b:Nat}{m:gU}(h:tg p a m)(u:a<=b):tg p b m:=⟨h.go.mono u,h.vo,h.fi⟩
variable (w:World) (K:Value->hM)
def P41:dI:=λi=>match i with
 | 6=>.run 0 9
 | _=>.nil
def P26:dI:=λi=>match i with
 | 6=>(.of [(1,[]),(2,[]),(3,[]),(4,[]),(5,[]),(6,[]),(7,[]),(8,[]),(9,[]),(10,[]),(11,[]),(12,[]),(13,[]),(0,[5,10]),(14,[]),(15,[]),(16,[])])
 | _=>.nil
theorem alG:PL 29:=dJ Tryz.func29
theorem azx:PL 39:=dJ Tryz.func39
theorem azy:PL 99:=dJ Tryz.func99
theorem azz:PL 26:=dJ Tryz.func26
end Go.Proofs.YtpdlpabnlkofmaaGreatDoor
namespace Go.Proofs.YtpdlpabnlkofmaaGreatDoor
open Go.Fw
def yK(e:aS):Bool:=decide (2<=e.kind/\e.kind<=4)
def C29(a:aS)(U:aI)(b:aS)(O:aI)(w:World)(B:ml w U a)(hb:ml w O b)(V:a.cut.length<=1073741824):CR 29 [j0 U,j0 O] w (λv w'=>v=.bool (decide (a=b))/\Ext w w'):=by
 obtain⟨I,rfl,B⟩:=B;obtain⟨J,rfl,hb⟩:=hb;have u:=St.start w;refine eZ Tryz.func29 ?_;refine cG (x:=(⟨a.kind,a.t,a.i,I⟩:aI)) u (λb2 _ u=>cG (x:=(⟨b.kind,b.t,b.i,J⟩:aI)) u λb3 _ u=>?_);refine⟨λW w'=>W=.bool (decide (a=b))/\St w aZ [bY b3 (kp (⟨b.kind,b.t,b.i,J⟩:aI)),bY b2 (kp (⟨a.kind,a.t,a.i,I⟩:aI))] w',?_,?_⟩
 .refine aA jy (aB (v:=hZ a.kind) bL u.p1.hb rfl (aA jy (aB (v:=hZ b.kind) bL u.hb rfl (aH (aC (λM=>?_) λM=>⟨vb (fP λh=>M (by rw[h])).symm,u⟩)))));refine aA qk (aB (v:=hZ a.t) bL u.p1.hb rfl (aA qk (aB (v:=hZ b.t) bL u.hb rfl ?_)));exact aH (aC (λE=>aA RL (aB (v:=hZ a.i) bL u.p1.hb rfl (aA RL (aB (v:=hZ b.i) bL u.hb rfl (aH (aC (λG=>aA RM (aB (v:=j0 (I:SV)) eh u.p1.hb rfl (aA RM (aB (v:=j0 (J:SV)) eh u.hb rfl (aV amI u (C71 _ _ a.cut b.cut _ (DL.flat (B.ext u.aG)) (DL.flat (hb.ext u.aG)) V) λ_ _ u=>⟨vb (ga.2 ⟨λh=>BA.2 ⟨M,E,G,h⟩,λh=>by rw[h]⟩),u⟩))))) λG=>⟨vb (fP λh=>G (by rw[h])).symm,u⟩)))))) λE=>⟨vb (fP λh=>E (by rw[h])).symm,u⟩)
 rintro _ _ ⟨rfl,u⟩ _;exact⟨rfl,u.drop.drop.aG⟩
def C39(e:aS)(ev:aI)(w:World)(E:ml w ev e):CR 39 [j0 ev] w (λv w'=>v=.bool (yK e)/\Ext w w'):=by
 obtain⟨g,rfl,_⟩:=E;have u:=St.start w;refine eZ Tryz.func39 ?_;refine cG (x:=(⟨e.kind,e.t,e.i,g⟩:aI)) u (λb2 _ u=>?_);refine⟨λG w'=>G=.bool (yK e)/\St w aZ [bY b2 (kp (⟨e.kind,e.t,e.i,g⟩:aI))] w',?_,?_⟩
 .exact aA jy (aB (v:=hZ e.kind) bL u.hb rfl (cR (aC (λB=>aA jy (aB (v:=hZ e.kind) bL u.hb rfl (gZ ⟨vb (ga.2 ⟨λh=>⟨B,h⟩,λh=>h.2⟩),u⟩))) λB=>⟨vb (fP λh=>B h.1).symm,u⟩)))
 rintro _ _ ⟨rfl,u⟩ _;exact⟨rfl,u.drop.aG⟩
def C99(e:aS)(ev:aI)(w:World)(B:ml w ev e):CR 99 [j0 ev] w (λv w'=>v=.bool (yK e)/\Ext w w'):=by
 obtain⟨g,rfl,_⟩:=B;have u:=St.start w;refine eZ Tryz.func99 ?_;refine cG (x:=(⟨e.kind,e.t,e.i,g⟩:aI)) u (λb2 _ u=>?_);refine⟨λE w'=>E=.bool (yK e)/\St w aZ [bY b2 (kp (⟨e.kind,e.t,e.i,g⟩:aI))] w',?_,?_⟩
 .exact aA jy (aB (v:=hZ e.kind) bL u.hb rfl (aH (aC (λ_=>⟨vb (ew bO).symm,u⟩) λ_=>aA jy (aB (v:=hZ e.kind) bL u.hb rfl (aH (aC (λ_=>⟨vb (ew bO).symm,u⟩) λ_=>aA jy (aB (v:=hZ e.kind) bL u.hb rfl (aH ⟨vb (ga.2 bO),u⟩))))))))
 rintro _ _ ⟨rfl,u⟩ _;exact⟨rfl,u.drop.aG⟩
def Gl(q:aS):aS:={q with cut:=q.cut.take 25}
def ti(l:List aS):List aS:=(l.take 40).map Gl
def abi(l:List aS):(ti l).length<=40/\∀q∈ti l,q.cut.length<=25:=by
 unfold ti
 refine⟨cL,λq u=>?_⟩
 obtain⟨x,_,rfl⟩:=oG.1 u
 show(x.cut.take 25).length<=25
 grind
theorem asB(xs:List Int):([]:List Int)++xs.take (min (xs.length:Int) 25).toNat=xs.take 25:=by
 rw[tx]
 rcases Int.le_total (xs.length:Int) 25 with h|h
 .rw[Int.min_eq_left h,qb,ld (pb _),ld bO]
 grind
def C26(lv:Value)(l:List aS)(w:World)(hL:DL w lv l):CR 26 [lv] w (λv w'=>kV (eF λw=>DL w v (ti l)) w w'):=by
 obtain⟨ts,J,hD⟩:=hL.open;have hn:ts.length=l.length:=hD.1;have u:=St.start w;refine oL Tryz.func26 (pl:=P26) ?_;refine tM (α:=aS) u fO (λs6 _ u=>?_);refine⟨λZ o y w'=>∃k:Nat,y=hZ (k:Int)/\Z=40-k/\k<=40/\k<=l.length/\St w aZ [fV o ((l.take k).map Gl)] w',⟨_,0,rfl,rfl,l6 _,l6 _,u⟩,?_⟩;rintro Z o _ w2 ⟨k,rfl,rfl,hk,xq,u⟩ _;have CM:((l.take k).map Gl).length=k:=by rw[List.length_map,l2];omega
 refine⟨λjv w'=>jv=.bool (decide (k<l.length/\k<40))/\w'=w2,?_,?_⟩
 .exact aK fO (J.ext u.aG) (aR (aC (λ_=>aR ⟨vb (ga.2 bO),rfl⟩) λ_=>⟨vb (fP bO).symm,rfl⟩))
 rintro _ _ ⟨rfl,rfl⟩ _;refine aC (λc2=>?_) (λc2=>?_);rotate_left
 .rw[qJ (xs:=l) (k:=k) (m:=40) bO bO c2]at u;exact u.m4.fresh
 obtain⟨q,hq⟩:=gx l (i:=k) bO;obtain⟨tq,I⟩:=gx ts (i:=((k:Nat):Int).toNat) bO;obtain⟨M,rfl,W⟩:=hD.2 k tq q I hq;have hc:=DL.flat W;refine aQ fO J bO I (λq19 U=>aD j8 (U.ext u.aG) (aM u B2 λb5 _ u=>aJ (x:=(⟨q.kind,q.t,q.i,M⟩:aI)) u j8 rfl rfl λ_ u=>have u:=u.drew;aQ fO J bO I λq24 O=>bV M me O rfl rfl λq25 G=>aD eh (G.ext u.aG) (aQ fO J bO I λq29 Y=>bV M me Y rfl rfl λq30 E=>aD eh (E.ext u.aG) (aK cS (hc.ext u.aG) (rH (jT cS hc bO bO λs34 V=>?_))))))
 refine bD ([]:List Int) u cS rfl rfl (dL rfl) (λs21 _ u=>?_);refine⟨eA eh (G.ext u.aG),?_⟩;refine⟨eA eh (E.ext u.aG),?_⟩;refine bJ u cS (V _ (hc.ext u.aG)) (by rw[l2];simp;omega) dD (λs35 _ u=>?_);rw[asB]at u;obtain⟨B,rfl⟩:=u.fK;exact aA me (aT u.p1 eh (dL rfl) rfl λ_ u=>have u:=u.enc (cs':=kp (⟨q.kind,q.t,q.i,B⟩:aI)) rfl;aD (x:=(⟨q.kind,q.t,q.i,B⟩:aI)) j8 u.At (have u:=u.p1.freeze.dN (Ψ:=λw=>ml w (⟨q.kind,q.t,q.i,B⟩:aI) (Gl q)) (λ_ h=>⟨B,rfl,DL.j4 h⟩);gj (x:=Gl q) (s:=(⟨q.kind,q.t,q.i,B⟩:aI)) u fO dD λ_ _ u=>gk u.p2 fO (by rw[CM,mv];omega) dD λ_ _ u=>aO bO ⟨_,bO,k+1,rfl,rfl,bO,bO,by rw[<- gi (k:=k) hq];exact u.p1.drop⟩))
variable (w:World) (K:Value->hM)
def P30:dI:=λi=>match i with
 | 3=>.run 0 10
 | _=>.nil
theorem azA:PL 98:=dJ Tryz.func98
theorem Vr:PL 30:=dJ Tryz.func30
theorem abk:PL 32:=dJ Tryz.func32
theorem asC:PL 31:=dJ Tryz.func31
theorem azB:PL 33:=dJ Tryz.func33
end Go.Proofs.YtpdlpabnlkofmaaGreatDoor
namespace Go.Fw
section
variable {P:Program}{w w0:World}{A S:Nat->Prop}{L:List HP}{α:Type}[Flat α] {xs ys:List α}
theorem abl{T E G:Nat}{z:Option Nat}{v:Value}{i:Int}{K:Value->Prop}(ht:eQ P T=some (E,m8 α,G,z))(I:dA S w v xs)
  (u:0<=i) (h1:i<=xs.length) (k:∀a:Option Addr,(∀w' (ys:List α),dA S w' v ys->dA S w' (.slice a i.toNat i.toNat) (ys.take i.toNat))->K (.slice a i.toNat i.toNat)):eU P (ob T v none (some (hZ i)) (some (hZ i))) K:=by
 obtain⟨a,cap,rfl,J,h3⟩:=id I
 refine⟨_,JR ht (z6 (.inl ⟨rfl,rfl⟩) ⟨i,rfl,u,rfl⟩ ⟨i,rfl,u,rfl⟩ (l6 _) (pb _) bO),k _ λw' ys B=>?_⟩
 refine B.aqU rfl (l6 _) ?_
 obtain⟨_,_,h4,_⟩:=B
 simp only[zH.injEq]at h4
 omega
theorem N9{T E kH R:Nat}{a:Option Addr}{n:Nat}{src:Value}{K:Value->hM}(hs:St w0 A L w)(ht:VA P T E (m8 α) kH)(hr:dA (λ_=>True) w (.slice a n n) xs)(uF:dA S w src ys)
  (hn:xs.length+ys.length<=1073741824) (hby:kH<=8192) (k:∀v' w',(St w0 A (bH v' (xs++ys)::L) w'\/(ys=[]/\v'=.slice a n n/\w'=w))->K v' w'):rR P (Builtin.append_ #[T,T] R [.slice a n n,src].toArray) w K:=by
 obtain⟨hu,u,hi,Y,wP,O⟩:=fp ht
 obtain⟨zv,I,W⟩:∃zv,u.zero=some zv/\zv.cells.size=m8 α:=by
  cases TP:u.zero with
  | none=>rw[TP]at O;cases O
  | some zv=>rw[TP]at O;exact⟨zv,rfl,by simpa using O⟩
 have hmul:(xs.length+ys.length)*u.bytes<=140737488355328:=by
  have:=Nat.mul_le_mul hn (show u.bytes<=8192 by omega);omega
 obtain⟨a',Db,hv,_,h3⟩:=id hr
 simp only[zH.injEq]at hv
 obtain⟨rfl,G,rfl⟩:=hv
 obtain⟨sa,U,rfl,hsc,hs3⟩:=id uF
 by_cases Z:ys=[]
 .subst Z
  refine⟨.slice a n n,w,?_,k _ _ (.inr ⟨rfl,rfl,rfl⟩)⟩
  cases a<;>cases sa<;>simp[Builtin.append_,run_underlying hu,sizeOf,typeInfo,hi,Builtin.lenOf,Builtin.firstCells,loadCells,loadCellsFrom,storeCells]
 have Ay:0<ys.length:=List.length_pos_iff.2 Z
 rcases hs3 with⟨h,_⟩|⟨M,V,rfl,_,VB⟩
 .exact absurd h Z
 have J:∀(c:Nat),n<=c->c<n+ys.length->(Builtin.append_ #[T,T] R [.slice a n n,.slice (some ⟨M,V,none⟩) ys.length U].toArray).run P w=.ok (.slice (some ⟨w.heap.size,0,none⟩) (n+ys.length) (grownCap w (n+ys.length) c E)) (w.drew.alloc (.cells ((flat xs).toArray++(flat ys).toArray++Builtin.zeroCells zv.cells (grownCap w (n+ys.length) c E-(n+ys.length))) E))->
   rR P (Builtin.append_ #[T,T] R [.slice a n n,.slice (some ⟨M,V,none⟩) ys.length U].toArray) w K:=λc _ hc Gw=>by
  have OQ:=grownCap_ge w (n+ys.length) c E
  have he:Ext w (w.drew.alloc (.cells ((flat xs).toArray++(flat ys).toArray++Builtin.zeroCells zv.cells (grownCap w (n+ys.length) c E-(n+ys.length))) E)):=⟨rfl,rfl,rfl,ee,λb hb _=>ye w.drew _ b hb⟩
  have cJ:=hs.new (H:=bH (.slice (some ⟨w.heap.size,0,none⟩) (n+ys.length) (grownCap w (n+ys.length) c E)) (xs++ys)) (F:=λk=>k=w.heap.size) he (by
   refine .inr ⟨w.heap.size,grownCap w (n+ys.length) c E,(Builtin.zeroCells zv.cells (grownCap w (n+ys.length) c E-(n+ys.length))).toList,by rw[l1,G],⟨E,?_⟩,?_,λ_=>Iff.rfl⟩
   .refine Eq.trans (mu w.drew (.cells ((flat xs).toArray++(flat ys).toArray++Builtin.zeroCells zv.cells (grownCap w (n+ys.length) c E-(n+ys.length))) E)) ?_
    congr 2
    apply Array.ext'
    simp[gJ]
   .refine⟨by rw[l1,<- G];exact OQ,AU (Eq.symm ?_)⟩
    have e:(Builtin.zeroCells zv.cells (grownCap w (n+ys.length) c E-(n+ys.length))).toList.length=(grownCap w (n+ys.length) c E-(n+ys.length))*m8 α:=by
     rw[Array.length_toList,size_zeroCells,W]
    rw[l1,e,dB,l1,<- G,<- Nat.add_mul]
    congr 1
    omega) λb hb=>by rw[hb];exact pb _
  exact⟨_,_,Gw,k _ _ (.inl cJ)⟩
 cases a with
 | none=>
  have hx:xs=[]:=by
   rcases h3 with⟨h,_⟩|⟨b,o,h,_⟩
   .exact h
   .cases h
  subst hx
  obtain rfl:n=0:=G
  refine J 0 (pb _) bO ?_
  have B:=run_append_nil (P:=P) w T R E u zv hu hi I ⟨M,V,none⟩ ys.length U (flat ys) (by rw[dB,Y]) (rS VB) Ay bO (xe (by simpa using hmul:ys.length*u.bytes<=140737488355328) dD)
  rw[u4]
  simpa[kN]using B
 | some p=>
  have hcx:∀j v,(flat xs)[j]?=some v->w.cell? (p.add j)=some v:=λj v hj=>by
   rcases h3 with⟨h,_⟩|⟨b,o,h,_,h5⟩
   .rw[h,kN]at hj;simp at hj
   .cases h;exact rS h5 j v hj
  have B:=run_append_grow (P:=P) w T R E u zv hu hi I p n n (flat xs) (by rw[dB,Y,G]) hcx ⟨M,V,none⟩ ys.length U (flat ys) (by rw[dB,Y]) (rS VB) bO bO (growslice_fits bO (by rw[G];exact hmul))
  exact J n (pb _) bO B
end
end Go.Fw
namespace Go.Proofs.YtpdlpabnlkofmaaGreatDoor
open Go.Fw
def fu(c:Int):gU->List aS->gU×List aS
 | m,[]=>(m,[])
 | m,q::r=>if q.kind=3/\c<=m.bZ then fu c m r else if (oP m q).2.2≠0 then fu c (oP m q).1 r else((fu c (oP m q).1 r).1,q::(fu c (oP m q).1 r).2)
def ea(p:cB)(room c:Int)(l:List aS):List aS×aS×Int:=
 if eP p room c≠0 then([],zE,eP p room c)else((fu c (iw p room) l).2,BI (fu c (iw p room) l).1,0)
theorem Tz{m:gU}{q:aS}(h:(oP m q).2.2≠0):(oP m q).1=m:=by
 unfold oP at h |-
 split
 .rename_i h1;rw[h1]at h;exact absurd rfl h
 rename_i h1;rw[h1]at h;dsimp only at h |-
 split at h
 .rename_i h2
  rw[ej h2]
  split at h
  .rename_i h3
   rw[ej h3]
   split at h
   .exact absurd rfl h
   rfl
  exact absurd rfl h
 rename_i h2;rw[ei h2]
theorem BK(c:Int):∀(l:List aS) (m:gU) (o:List cI),(vS c m o (fu c m l).2).1=(fu c m l).1/\(vS c m o (fu c m l).2).2.2=0
 | [],m,o=>⟨rfl,rfl⟩
 | q::r,m,o=>by
  unfold fu
  split
  .exact BK c r m o
  rename_i h1
  split
  .rename_i h2
   rw[Tz h2]
   exact BK c r m o
  .rename_i h2
   show(vS c m o (q::_)).1=_/\(vS c m o (q::_)).2.2=0
   rw[vS,ei h1,ei h2]
   exact BK c r _ _
theorem Oa{p:cB}{room c:Int}(h:eP p room c=0)(l:List aS):(BJ p room c (fu c (iw p room) l).2).1=BI (fu c (iw p room) l).1/\(BJ p room c (fu c (iw p room) l).2).2.2.1=0:=by
 obtain⟨h1,h2⟩:=BK c l (iw p room) []
 rw[abg h h2,h1]
 exact⟨rfl,rfl⟩
theorem tZ(c:Int):∀(l:List aS) (m:gU),fu c m (fu c m l).2=fu c m l
 | [],m=>rfl
 | q::r,m=>by
  by_cases h1:q.kind=3/\c<=m.bZ
  .have e:fu c m (q::r)=fu c m r:=by rw[fu,ej h1]
   rw[e];exact tZ c r m
  by_cases h2:(oP m q).2.2≠0
  .have e:fu c m (q::r)=fu c m r:=by rw[fu,ei h1,ej h2,Tz h2]
   rw[e];exact tZ c r m
  .have e:∀s,fu c m (q::s)=((fu c (oP m q).1 s).1,q::(fu c (oP m q).1 s).2):=λs=>by rw[fu,ei h1,ei h2]
   rw[e]
   show fu c m (q::(fu c (oP m q).1 r).2)=_
   rw[e,tZ c r]
theorem vl(c:Int):∀(l:List aS) (m:gU),(fu c m l).2.Sublist l
 | [],m=>List.Sublist.refl _
 | q::r,m=>by
  unfold fu
  split
  .exact(vl c r m).cons q
  .split
   .exact(vl c r _).cons q
   .exact(vl c r _).cons₂ q
theorem qq{p:cB}{room c:Int}{l:List aS}(h:eP p room c≠0):ea p room c l=([],zE,eP p room c):=by unfold ea;rw[ej h]
theorem vV{p:cB}{room c:Int}{l:List aS}(h:eP p room c=0):ea p room c l=((fu c (iw p room) l).2,BI (fu c (iw p room) l).1,0):=by unfold ea;rw[ei (by rw[h];decide)]
def qf{p:cB}{room c:Int}{l:List aS}:(ea p room c l).1.Sublist l:=by
 unfold ea;split
 .exact List.nil_sublist _
 exact vl _ _ _
def vm{p:cB}{room c:Int}{l:List aS}:(ea p room c l).1.length<=l.length:=qf.length_le
def jm(a b:aS):Bool:=decide (a.kind=b.kind/\a.t=b.t)
def pB(D:List aS->List aS×aS):Nat->List aS->aS->Nat->Bool->List aS×aS×Bool
 | 0,s,e,_,ch=>(s,e,ch)
 | n+1,s,e,k,ch=>if k<s.length then(if jm (D (s.eraseIdx k)).2 e=true then pB D n (D (s.eraseIdx k)).1 (D (s.eraseIdx k)).2 k true else pB D n s e (k+1) ch)else(s,e,ch)
def uA(D:List aS->List aS×aS):Nat->List aS->aS->List aS×aS
 | 0,s,e=>(s,e)
 | n+1,s,e=>if (pB D (s.length+1) s e 0 false).2.2=true then uA D n (pB D (s.length+1) s e 0 false).1 (pB D (s.length+1) s e 0 false).2.1 else((pB D (s.length+1) s e 0 false).1,(pB D (s.length+1) s e 0 false).2.1)
def fD(p:cB)(room c:Int)(s:List aS):List aS×aS:=((ea p room c s).1,(ea p room c s).2.1)
def gg(p:cB)(room c:Int)(l:List aS):List aS×aS×Int:=
 if (ea p room c l).2.2≠0 then([],zE,(ea p room c l).2.2)
 else if (ea p room c l).1.length≠l.length\/yK (ea p room c l).2.1=false then([],zE,13)
 else((uA (fD p room c) ((ea p room c l).1.length+1) (ea p room c l).1 (ea p room c l).2.1).1,(uA (fD p room c) ((ea p room c l).1.length+1) (ea p room c l).1 (ea p room c l).2.1).2,0)
section
variable {D:List aS->List aS×aS}(hD:∀s,(D s).1.length<=s.length)
theorem oI{s:List aS}{k:Nat}(h:k<s.length):(s.eraseIdx k).length+1=s.length:=by rw[List.length_eraseIdx_of_lt h];omega
include hD in
theorem vW:∀(n u:Nat) (s:List aS) (e:aS) (k:Nat) (ch:Bool),s.length<n+k->s.length<u+k->pB D n s e k ch=pB D u s e k ch
 | 0,0,s,e,k,ch,h,B=>rfl
 | 0,u+1,s,e,k,ch,h,B=>by rw[pB,pB,ei bO]
 | n+1,0,s,e,k,ch,h,B=>by rw[pB,pB,ei bO]
 | n+1,u+1,s,e,k,ch,h,B=>by
  rw[pB,pB]
  split
  .rename_i h1
   have h2:=hD (s.eraseIdx k)
   have h3:=oI h1
   split
   .exact vW n u _ _ _ _ bO bO
   .exact vW n u _ _ _ _ bO bO
  .rfl
def km(D:List aS->List aS×aS)(s:List aS)(e:aS)(k:Nat)(ch:Bool):List aS×aS×Bool:=pB D (s.length+1) s e k ch
include hD in
theorem vn{s:List aS}{e:aS}{k:Nat}{ch:Bool}(h:k<s.length)(h2:jm (D (s.eraseIdx k)).2 e=true):km D s e k ch=km D (D (s.eraseIdx k)).1 (D (s.eraseIdx k)).2 k true:=by
 have h3:=hD (s.eraseIdx k)
 have h4:=oI h
 unfold km
 rw[pB,ej h,ej h2]
 exact vW hD _ _ _ _ _ _ bO bO
include hD in
theorem xW{s:List aS}{e:aS}{k:Nat}{ch:Bool}(h:k<s.length)(h2:¬ jm (D (s.eraseIdx k)).2 e=true):km D s e k ch=km D s e (k+1) ch:=by
 unfold km
 conv=>lhs;rw[pB,ej h,ei h2]
 exact vW hD _ _ _ _ _ _ bO bO
theorem oJ{s:List aS}{e:aS}{k:Nat}{ch:Bool}(h:¬ k<s.length):km D s e k ch=(s,e,ch):=by
 unfold km;rw[pB,ei h]
include hD in
theorem qg:∀(n:Nat) (s:List aS) (e:aS) (k:Nat) (ch:Bool),s.length<n+k->(km D s e k ch).1.length<=s.length/\(ch=false->(km D s e k ch).2.2=true->(km D s e k ch).1.length<s.length)
 | 0,s,e,k,ch,h=>by rw[oJ bO];exact⟨pb _,λh1 h2=>by rw[h1]at h2;cases h2⟩
 | n+1,s,e,k,ch,h=>by
  by_cases h1:k<s.length
  .have h3:=hD (s.eraseIdx k)
   have h4:=oI h1
   by_cases h2:jm (D (s.eraseIdx k)).2 e=true
   .rw[vn hD h1 h2]
    have:=qg n (D (s.eraseIdx k)).1 (D (s.eraseIdx k)).2 k true bO
    exact⟨bO,λ_ _=>bO⟩
   .rw[xW hD h1 h2]
    exact qg n s e (k+1) ch bO
  .rw[oJ h1];exact⟨pb _,λh1 h2=>by rw[h1]at h2;cases h2⟩
def nx(D:List aS->List aS×aS)(s:List aS)(e:aS):List aS×aS:=uA D (s.length+1) s e
include hD in
theorem C3:∀(n u:Nat) (s:List aS) (e:aS),s.length<n->s.length<u->uA D n s e=uA D u s e
 | 0,_,s,e,h,_=>absurd h (Mh _)
 | _+1,0,s,e,_,h=>absurd h (Mh _)
 | n+1,u+1,s,e,h,B=>by
  rw[uA,uA]
  split
  .rename_i h1
   have:=(qg hD (s.length+1) s e 0 false bO).2 rfl h1
   unfold km at this
   exact C3 n u _ _ bO bO
  .rfl
include hD in
theorem CD{s:List aS}{e:aS}(h:(km D s e 0 false).2.2=true):nx D s e=nx D (km D s e 0 false).1 (km D s e 0 false).2.1:=by
 have h2:=(qg hD (s.length+1) s e 0 false bO).2 rfl h
 unfold nx
 conv=>lhs;rw[uA]
 unfold km at h h2 |-
 rw[ej h]
 exact C3 hD _ _ _ _ bO bO
theorem Ad{s:List aS}{e:aS}(h:(km D s e 0 false).2.2=false):nx D s e=((km D s e 0 false).1,(km D s e 0 false).2.1):=by
 unfold nx
 rw[uA]
 unfold km at h |-
 rw[ei (by rw[h];decide)]
end
def oK{α:Type}(l:List α)(k:Int):List α:=if k<0\/(l.length:Int)<=k then l else l.eraseIdx k.toNat
theorem Rd{α:Type}{l:List α}{k:Nat}(h:k<l.length):oK l (k:Int)=l.eraseIdx k:=by unfold oK;rw[ei bO,qb]
def ua{α:Type}(l:List α)(k:Int):(oK l k).length<=l.length:=by
 unfold oK;split
 .exact pb _
 exact List.length_eraseIdx_le l _
def yC{α:Type}{l:List α}{k:Int}{x:α}(h:x∈oK l k):x∈l:=by
 unfold oK at h;split at h
 .exact h
 exact H5 h
theorem TA{α:Type}{l:List α}{k:Int}(u:0<=k)(h1:k<l.length):l.take k.toNat++l.drop (k+1).toNat=oK l k:=by
 unfold oK
 rw[ei bO,vE,show(k+1).toNat=k.toNat+1 from bO]
theorem abm{α:Type}{l:List α}{k:Nat}(h:k<l.length):oK (l.take (k+1)) (k:Int)=oK (l.take k) (k:Int):=by
 have e:(l.take (k+1)).length=k+1:=by rw[l2];omega
 have u:(l.take k).length=k:=by rw[l2];omega
 rw[Rd bO]
 unfold oK
 rw[ej bO,vE,List.take_take,Nat.min_eq_left bO,Jg bO,pd]
theorem alH{α:Type}{l:List α}{i:Nat}{k:Int}{x:α}(h:l[i]?=some x)(B:(i:Int)≠k):oK (l.take (i+1)) k=oK (l.take i) k++[x]:=by
 have E:=(kO.1 h).1
 have e:(l.take (i+1)).length=i+1:=by rw[l2];omega
 have G:(l.take i).length=i:=by rw[l2];omega
 have u:l.take (i+1)=l.take i++[x]:=by rw[List.take_add_one,h];rfl
 unfold oK
 by_cases c:k<0\/((l.take i).length:Int)<=k
 .rw[ej c,ej bO,u]
 rw[ei c,ei bO,u,List.eraseIdx_append_of_lt_length bO]
def CE{α σ:Type}[Flat σ][Deep α σ]{w:World}{ts:List σ}{xs:List α}{k:Int}(h:gy ts xs w):gy (oK ts k) (oK xs k) w:=by
 have u:ts.length=xs.length:=h.1
 unfold oK
 rw[u]
 split
 .exact h
 rename_i c
 rw[vE,vE]
 exact(h.take _).append (h.drop _)
def C98(sv:Value)(xs:List aI)(w:World)(B:dA (λ_=>True) w sv xs)(J:xs.length<=1000000):CR 98 [sv] w (λv w'=>kV (bH v xs) w w'):=by
 have u:=St.start w;refine eZ Tryz.func98 ?_;refine Ho Tryz.underlying39 (B.ext u.aG) (λp E=>aY (λG=>?_) λ_=>bD ([]:List aI) u fO rfl rfl (dL rfl) λ_ _ u=>bJ u fO (B.ext u.aG) (by simp;omega) dD λ_ _ u=>u.fresh);have I:=E G;subst I;exact(u.eM (α:=aI)).fresh
def C30(K:hM)(lv:Value)(ts:List aI)(k:Int)(w:World)(W:∀w',Ext w w'->K w')(I:∀w,K w->dA (λ_=>True) w lv ts)(U:ts.length<=1000000):CR 30 [lv,hZ k] w (λv w'=>kV (eF λw=>K w->dA (λ_=>True) w v (oK ts k)) w w'):=by
 have B:=I _ (W _ (Ext.refl _));have u:=St.start w;refine oL Tryz.func30 (pl:=P30) ?_;refine⟨λY w'=>Y=.bool (decide (k<0\/(ts.length:Int)<=k))/\w'=w,?_,?_⟩
 .exact aR (aC (λc=>⟨vb (ew (.inl c)).symm,rfl⟩) λ_=>aK fO (B.ext u.aG) (cR ⟨vb (ga.2 bO),rfl⟩))
 rintro _ _ ⟨rfl,rfl⟩ _;refine aC (λc=>?_) (λc=>?_)
 .refine dU azA u (C98 lv ts _ (B.ext u.aG) U) (λG _ Z u=>?_);have e:oK ts k=ts:=by unfold oK;rw[ej c]
  rw[e];exact(u.freeze.dN (Ψ:=λw=>K w->dA (λ_=>True) w G ts) λ_ h _=>h).fresh
 refine abl fO (B.ext u.aG) bO bO (λa J=>aO bO (FQ fO (B.ext u.aG) bO bO λO E=>have u:=u.drew;N9 u fO (J _ _ (B.ext u.aG)) (E _ _ (B.ext u.aG)) (by rw[l2,List.length_drop];omega) dD λv _ M=>?_));rw[TA bO bO]at M
 rcases M with u|⟨V,rfl,rfl⟩
 .exact(u.freeze.dN (Ψ:=λw=>K w->dA (λ_=>True) w v (oK ts k)) λ_ h _=>h).fresh
 refine(u.fr (Φ:=λw=>K w->dA (λ_=>True) w _ (oK ts k)) λw h=>?_).fresh;rw[<- TA bO bO,V,pd];exact J _ _ (I _ h)
def C31(K:hM)(lv:Value)(ts:List aI)(k:Int)(w:World)(Y:∀w',Ext w w'->K w')(O:∀w,K w->dA (λ_=>True) w lv ts)(hn:ts.length<=1000000):CR 31 [lv,hZ k] w (λv w'=>kV (eF λw=>K w->dA (λ_=>True) w v (oK ts k)) w w'):=by
 have I:=O _ (Y _ (Ext.refl _));have u:=St.start w;refine eZ Tryz.func31 ?_;refine bD ([]:List aI) u fO rfl rfl (dL rfl) (λx7 _ u=>?_);refine⟨λJ o y w'=>∃i:Nat,y=hZ (i:Int)/\J=ts.length-i/\i<=ts.length/\St w aZ [bH o (oK (ts.take i) k)] w',⟨_,0,rfl,rfl,l6 _,by rw[show oK (ts.take 0) k=[]from List.length_eq_zero_iff.1 (by have:=ua (ts.take 0) k;simpa using this)];exact u⟩,?_⟩;rintro J o _ _ ⟨i,rfl,rfl,hi,u⟩ _;refine aK fO (I.ext u.aG) (aR (aC (λW=>?_) λW=>?_));rotate_left
 .rw[ld bO]at u;exact(u.freeze.dN (Ψ:=λw=>K w->dA (λ_=>True) w o (oK ts k)) λ_ h _=>h).fresh
 obtain⟨x,B⟩:=gx ts (i:=((i:Nat):Int).toNat) bO;refine⟨λZ w'=>St w aZ [bH Z (oK (ts.take (i+1)) k)] w',?_,?_⟩
 .refine bX (aC (λE=>?_) λE=>?_)
  .refine aQ fO (I.ext u.aG) bO B (λq V=>aD j8 V (bD [x] u fO rfl rfl (dL rfl) λU _ u=>?_));have G:=u.dS;refine bJ u.p1 fO G (by have:=ua (ts.take i) k;rw[l2]at this;rw[mv];omega) dD (λM _ u=>?_);rw[qb]at B;rw[alH B E];exact u.p1.drop
  obtain rfl:(i:Int)=k:=uh.1 E;rw[abm bO];exact u
 rintro o2 _ u _;exact aO bO ⟨_,bO,i+1,rfl,rfl,bO,u⟩
def C32(a:aS)(I:aI)(b:aS)(M:aI)(w:World)(E:ml w I a)(hb:ml w M b):CR 32 [j0 I,j0 M] w (λv w'=>v=.bool (jm a b)/\Ext w w'):=by
 obtain⟨G,rfl,E⟩:=E;obtain⟨J,rfl,hb⟩:=hb;have u:=St.start w;refine eZ Tryz.func32 ?_;refine cG (x:=(⟨a.kind,a.t,a.i,G⟩:aI)) u (λb2 _ u=>cG (x:=(⟨b.kind,b.t,b.i,J⟩:aI)) u λb3 _ u=>?_);refine⟨λO w'=>O=.bool (jm a b)/\St w aZ [bY b3 (kp (⟨b.kind,b.t,b.i,J⟩:aI)),bY b2 (kp (⟨a.kind,a.t,a.i,G⟩:aI))] w',?_,?_⟩
 .exact aA jy (aB (v:=hZ a.kind) bL u.p1.hb rfl (aA jy (aB (v:=hZ b.kind) bL u.hb rfl (aH (aC (λB=>aA qk (aB (v:=hZ a.t) bL u.p1.hb rfl (aA qk (aB (v:=hZ b.t) bL u.hb rfl (aH ⟨vb (ga.2 ⟨λh=>⟨B,h⟩,λh=>h.2⟩),u⟩))))) λB=>⟨vb (fP λh=>B h.1).symm,u⟩)))))
 rintro _ _ ⟨rfl,u⟩ _;exact⟨rfl,u.drop.drop.aG⟩
def C33(a:aS)(I:aI)(b:aS)(M:aI)(w:World)(E:ml w I a)(hb:ml w M b):CR 33 [j0 I,j0 M] w (λv w'=>v=.bool (jm a b)/\Ext w w'):=by
 obtain⟨G,rfl,E⟩:=E;obtain⟨J,rfl,hb⟩:=hb;have u:=St.start w;refine eZ Tryz.func33 ?_;refine cG (x:=(⟨a.kind,a.t,a.i,G⟩:aI)) u (λb2 _ u=>cG (x:=(⟨b.kind,b.t,b.i,J⟩:aI)) u λb3 _ u=>?_);refine⟨λO w'=>O=.bool (jm a b)/\St w aZ [bY b3 (kp (⟨b.kind,b.t,b.i,J⟩:aI)),bY b2 (kp (⟨a.kind,a.t,a.i,G⟩:aI))] w',?_,?_⟩
 .exact aA jy (aB (v:=hZ a.kind) bL u.p1.hb rfl (aA jy (aB (v:=hZ b.kind) bL u.hb rfl (aH (aC (λB=>aA qk (aB (v:=hZ a.t) bL u.p1.hb rfl (aA qk (aB (v:=hZ b.t) bL u.hb rfl (aH ⟨vb (ga.2 ⟨λh=>⟨B,h⟩,λh=>h.2⟩),u⟩))))) λB=>⟨vb (fP λh=>B h.1).symm,u⟩)))))
 rintro _ _ ⟨rfl,u⟩ _;exact⟨rfl,u.drop.drop.aG⟩
variable (w:World) (K:Value->hM)
def S27(p0 qQ I l3:Value):Prop:=
 rR hH (Instr.box 27 p0) w λp4 a=>aL 63 a λb c=>lA 27 p4 c λd=>cF 12 [d,qQ] c λe f=>xT e 0 λg=>xT e 1 λh=>bB .neq 31 h (i 0) λj=>cV j (eU hH (mL 63 [].toArray) λk=>
 sA 63 b k f λl=>lA 63 b l λr=>K (.tuple #[(.slice none 0 0),r,h]) l) (fg (λK1=>bB .lss 3 I (i 0) λn=>cV n (K1 tt f) (bB .gtr 3 I (i 8) λo=>K1 o f))
 (λp q=>∀_:Env,
 cV p (eU hH (mL 63 [].toArray) λs=>sA 63 b s q λt=>lA 63 b t λIS=>K (.tuple #[(.slice none 0 0),IS,(i 1)]) t) (lN 39 l3 λu=>pD (λK2 G v x=>∀_:Env,
 bA .lss 3 v u λy=>cV y (fg (λO=>iA 39 l3 v λz=>lA 50 z x λaa=>aL 50 x λB ac=>sA 50 B aa ac λW=>fg (λZ=>fA 50 B 0 λae=>lA 3 ae W λaf=>
 bB .eql 3 af (i 3) λag=>cV ag (cF 68 [g] W λah ai=>eU hH (aaP 114 ah 0) λaj=>bA .geq 3 aj I λak=>Z ak ai) (Z ff W)) (λal V=>∀_:Env,
 cV al (O G V) (lA 50 B V λan=>cF 24 [g,an] V λao ap=>xT ao 0 λaq=>xT ao 1 λar=>aL 56 ap λasx au=>sA 56 asx aq au λM=>bB .neq 31 ar (i 0) λaw=>
 cV aw (O G M) (fA 50 B 3 λax=>lA 41 ax M λay=>cF 83 [ay] M λaz a0=>fA 50 B 3 λa1=>sA 41 a1 az a0 λa2=>lA 50 B a2 λa3=>bS 39 1 [(0,a3)] a2 λa4 a5=>
 aP 39 G a4 a5 λa6 a7=>O a6 a7)))) (λU a8=>∀_:Env,
 bB .add 3 v (i 1) λa9=>K2 U a9 a8)) (lA 27 p4 x λba=>cF 40 [ba,qQ,I,G] x λJ bc=>xT J 0 λbd=>xT J 1 λ_=>xT J 2 λ_=>xT J 3 λ_=>
 aL 63 bc λE be=>sA 63 E bd be λY=>lA 63 E (drew Y) λbg=>sA 63 b bg (drew Y) λbh=>lA 63 b bh λOO=>K (.tuple #[G,OO,(i 0)]) bh)) λK2=>K2 (.slice none 0 0) (i 0) q)))
def P27:dI:=λi=>match i with
 | 17=>.run 0 5
 | _=>.nil
theorem alI(p0 E B u:Value)(h:S27 w K p0 E B u):CR 27 [p0,E,B,u] w K:=
 qW 86 P27 1792 [.tmp 8,.cell 9 63,.tmp 10] Tryz.func27 h
theorem Vs:PL 27:=dJ Tryz.func27
theorem afj:PL 28:=dJ Tryz.func28
end Go.Proofs.YtpdlpabnlkofmaaGreatDoor
namespace Go.Proofs.YtpdlpabnlkofmaaGreatDoor
open Go.Fw
def C27(K:hM)(p:cB)(pv:bP)(room c:Int)(lv:Value)(l:List aS)(w:World)(E:∀w',Ext w w'->K w')(hp:IB K pv p)(hz:PZ p)(hl:GS K lv l)(Ag:l.length<=1000)(D9:∀q∈l,q.cut.length<=1000) :
  CR 27 [j0 pv,hZ room,hZ c,lv] w (λv w'=>∃(ov:Value) (ev:aI),v=.tuple #[ov,j0 ev,hZ (ea p room c l).2.2]/\kV (eF λw=>DL w ov (ea p room c l).1/\ml w ev (ea p room c l).2.1) w w'):=by
 have u:=St.start w;refine alI _ _ _ _ _ _ ?_;unfold S27;refine cG (x:=pv) u (λb4 _ u=>aM u gd λb9 _ u=>have u:=u.enc (cs':=kp (⟨0,0,0,bW⟩:aI)) rfl;aD eg u.p1.At (dM aq8 (C12 K p pv room _ (λ_ e=>E _ (u.aG.then e)) hp hz) ?_));rintro v20 w3 (⟨h1,rfl,he⟩|⟨U,h1,rfl,he⟩|⟨U,hr,b,X,rfl,cJ⟩)
 .have u:=u.ext he;refine aN rfl (aN rfl (bX (aC (λ_=>?_) λh=>absurd h1 h)));have e:eP p room c=fk p:=by unfold eP;rw[ej h1]
  refine pop rh (aJ (x:=(⟨0,0,0,bW⟩:aI)) u eO rfl rfl λw4 u=>aD (x:=(⟨0,0,0,bW⟩:aI)) eO u.At ?_);rw[qq (by rw[e];exact h1),e];exact⟨_,_,rfl,(u.drop.drop.fr (Φ:=λw=>DL w (.slice none 0 0) []/\ml w (⟨0,0,0,bW⟩:aI) zE) λw=>⟨DL.nil w,wx w⟩).fresh⟩
 .have u:=u.ext he;refine aN rfl (aN rfl (bX (aC (λ_=>?_) λh=>absurd (by decide:(1:Int)≠0) h)));have e:eP p room c=1:=by unfold eP;rw[ei (by rw[U];decide),ej h1]
  refine pop rh (aJ (x:=(⟨0,0,0,bW⟩:aI)) u eO rfl rfl λw4 u=>aD (x:=(⟨0,0,0,bW⟩:aI)) eO u.At ?_);rw[qq (by rw[e];decide),e];exact⟨_,_,rfl,(u.drop.drop.fr (Φ:=λw=>DL w (.slice none 0 0) []/\ml w (⟨0,0,0,bW⟩:aI) zE) λw=>⟨DL.nil w,wx w⟩).fresh⟩
 have zq:=vR U;have u:=(u.made cJ).split;refine aN rfl (aN rfl (bX (aC (λh=>absurd rfl h) λ_=>?_)));refine⟨λjv w'=>jv=.bool (decide (c<0\/8<c))/\w'=w3,?_,?_⟩
 .exact aR (aC (λh=>⟨vb (ew (.inl h)).symm,rfl⟩) λ_=>cN ⟨vb (ga.2 bO),rfl⟩)
 rintro _ _ ⟨rfl,rfl⟩ _;refine aC (λh2=>?_) (λh2=>?_)
 .have e:eP p room c=1:=by unfold eP;rw[ei (by rw[U];decide),ei bO,ej h2]
  refine pop rh (aJ (x:=(⟨0,0,0,bW⟩:aI)) u.p2 eO rfl rfl λ_ u=>aD (x:=(⟨0,0,0,bW⟩:aI)) eO u.At ?_);rw[qq (by rw[e];decide),e];exact⟨_,_,rfl,(u.drop.drop.drop.drop.fr (Φ:=λw=>DL w (.slice none 0 0) []/\ml w (⟨0,0,0,bW⟩:aI) zE) λw=>⟨DL.nil w,wx w⟩).fresh⟩
 have Y:eP p room c=0:=by unfold eP;rw[ei (by rw[U];decide),ei bO,ei h2]
 obtain⟨ts,vT⟩:=hl;have hn:ts.length=l.length:=(vT _ (E _ u.aG)).2.1;refine aK fO (vT _ (E _ u.aG)).1 ?_
 refine⟨λmm o y w'=>∃(k:Nat) (m:gU) (out:List aS),y=hZ (k:Int)/\mm=ts.length-k/\k<=l.length/\out.length<=k/\wH p k m/\m.mem.dW=eW p/\(fu c (iw p room) l)=((fu c m (l.drop k)).1,out++(fu c m (l.drop k)).2)/\St w aZ [fV o out,gu (λw=>K w/\X w) b m,eF X,bY b9 (kp (⟨0,0,0,bW⟩:aI)),bY b4 (kp pv)] w',
  ⟨_,0,iw p room,[],rfl,rfl,l6 _,pb _,wH.new hz zq hr,rfl,rfl,St.Hn ((u.fr (Φ:=gy ([]:List aI) ([]:List aS)) λ_=>gy.nil).eM (α:=aI))⟩,?_⟩
 rintro mm ov _ w7 ⟨k,m,out,rfl,rfl,hk,ho,G,Dt,B,u⟩ _;refine aR (aC (λc1=>?_) λc1=>?_);rotate_left
 .rw[Jg bO]at B;have B:(fu c (iw p room) l)=(m,out):=B.trans (by show(m,out++[])=_;rw[pd]);obtain⟨r1,r2⟩:=Oa Y l;rw[B]at r1 r2;obtain⟨F,u,hX⟩:=u.m4.MX;have Ur:GS (λw'=>K w'/\ph F w7 w') ov out:=(GS.of hX).mono λ_ h=>h.2;have azD:out.Sublist l:=by have:=vl c l (iw p room);rw[B]at this;exact this
  refine aD eg u.p4.At (dM azu (C40 (λw'=>K w'/\ph F w7 w') p pv room c ov out _ (λ_ e=>⟨E _ (u.aG.then e),(u.ext e).eF⟩) (hp.mono λ_ h=>h.1) hz Ur bO λq W=>D9 q (azD.subset W)) ?_);rintro _ w8 ⟨ev,ov2,rfl,cJ⟩;have u:=(u.made cJ).split;refine aN rfl (aN rfl (aN rfl (aN rfl (aM u gd λb18 w9 u=>aJ (x:=ev) u eO rfl rfl λw10 u=>have u:=u.drew;aD (x:=ev) eO u.At (aJ (x:=ev) u.p6 eO rfl rfl λw11 u=>aD (x:=ev) eO u.At ?_)))));rw[vV Y,B];have u:=u.drop.drop.p1.drop.hG.p1.drop.p1.drop.p1.drop.dN (Ψ:=λw=>DL w ov out/\ml w ev (BI m)) (λ_ h=>⟨hX _ h.2,by rw[<- r1];exact h.1⟩)
  exact⟨ov,ev,rfl,u.fresh⟩
 obtain⟨q,W⟩:=gx l (i:=k) bO;obtain⟨tq,Ox⟩:=gx ts (i:=((k:Nat):Int).toNat) bO;have V:∀w',K w'->ml w' tq q:=λw' h=>(vT w' h).2.2 k tq q Ox W;obtain⟨J,rfl,_⟩:=V _ (E _ u.aG)
 have Z:∀w',K w'->dA (λ_=>True) w' (j0 J) q.cut:=λw' h=>by
  obtain⟨gc2,e,h3⟩:=V w' h;cases e
  exact DL.flat h3
 have hqc:=D9 q (la W);rw[IC W]at B;have rB:=G.mb.mono (b:=1000000) bO;have De:=G.cr;refine⟨λo' w'=>∃(O:gU) (Vt:List aS),Vt.length<=k+1/\wH p (k+1) O/\O.mem.dW=eW p/\(fu c (iw p room) l)=((fu c O (l.drop (k+1))).1,Vt++(fu c O (l.drop (k+1))).2)/\St w aZ [fV o' Vt,gu (λw=>K w/\X w) b O,eF X,bY b9 (kp (⟨0,0,0,bW⟩:aI)),bY b4 (kp pv)] w',?_,?_⟩;rotate_left
 .rintro o2 w8 ⟨m2,alJ,h1,h2,h3,h4,u⟩ v8;exact aO bO ⟨ts.length-(k+1),bO,k+1,m2,alJ,rfl,rfl,bO,h1,h2,h3,h4,u⟩
 refine aQ fO (vT _ (E _ u.aG)).1 bO Ox (λq37 h37=>aD j8 h37 (aM u B2 λb15 w8 u=>aJ (x:=(⟨q.kind,q.t,q.i,J⟩:aI)) u j8 rfl rfl λw9 u=>?_));refine⟨λjv w'=>jv=.bool (decide (q.kind=3/\c<=m.bZ))/\St w aZ [bY b15 (kp (⟨q.kind,q.t,q.i,J⟩:aI)),fV ov out,gu (λw=>K w/\X w) b m,eF X,bY b9 (kp (⟨0,0,0,bW⟩:aI)),bY b4 (kp pv)] w',?_,?_⟩
 .exact aA mZ (aB (v:=hZ q.kind) bL u.hb rfl (aH (aC (λI=>aV ajJ u (C68 (λw=>K w/\X w) b m _ u.p2.has (λ_ e=>⟨E _ (u.aG.then e),(u.ext e).p3.eF⟩) G.ok) λ_ _ u=>pop (ahq (iU m)) (cR ⟨vb (ga.2 ⟨λh=>⟨I,h⟩,λh=>h.2⟩),u⟩)) λI=>⟨vb (fP λh=>I h.1).symm,u⟩)))
 rintro _ w10 ⟨rfl,u⟩ v8;refine aC (λI=>?_) (λI=>?_)
 .rw[fu,ej I]at B;exact⟨m,out,bO,G.mono bO,Dt,B,u.drop⟩
 rw[fu,ei I]at B;have Gq:=G.step (q:=q) zq;have M:=(Rb G.ok q).trans Dt;refine aD (x:=(⟨q.kind,q.t,q.i,J⟩:aI)) j8 u.At (bF aq6 u.p2 (H':=λ_=>gu (λw=>K w/\X w) b (oP m q).1) (Φ:=λv _=>v=.tuple #[j0 (oP m q).2.1,hZ (oP m q).2.2]) (λF2 ef dX=>?_) ?_)
 .exact C24 (λw=>K w/\X w) b m q J F2 _ ef (λw' hc=>⟨E _ (dX w' hc).aG,(dX w' hc).p2.eF⟩) G.ok (G.pr▸zq) rB bO (λw' hc=>Z _ (E _ (dX w' hc).aG)) hqc
 rintro _ w11 rfl u;refine aN rfl (aN rfl (aM u mz λb16 _ u=>aJ (x:=(oP m q).2.1) u fo rfl rfl λ_ u=>bX (aC (λc3=>?_) λc3=>?_)))
 .rw[ej c3]at B;exact⟨_,out,bO,Gq,M,B,u.drop.p1.drop.p1⟩
 rw[ei c3]at B;have u:=u.drop.p1;refine aA me (aB (v:=j0 (J:SV)) eh u.hb rfl (dU ON u (C83 _ q.cut _ (Z _ (E _ u.aG)) bO) λx67 _ cJ u=>?_));obtain⟨sv,rfl⟩:=u.fK;exact aA me (aT u.p1 eh (dL rfl) rfl λ_ u=>have u:=u.enc (cs':=kp (⟨q.kind,q.t,q.i,sv⟩:aI)) rfl;aD (x:=(⟨q.kind,q.t,q.i,sv⟩:aI)) j8 u.At (have u:=u.p1.freeze.dN (Ψ:=λw=>ml w (⟨q.kind,q.t,q.i,sv⟩:aI) q) (λ_ h=>⟨sv,rfl,DL.j4 h⟩);gj (x:=q) (s:=(⟨q.kind,q.t,q.i,sv⟩:aI)) u fO dD λ_ _ u=>gk u.p3 fO (by rw[mv];omega) dD λ_ _ u=>⟨_,out++[q],by rw[l1,mv];omega,Gq,M,by rw[B,n5];rfl,u.p1.drop⟩))
def C28(K Y:hM)(p:cB)(pv:bP)(room c:Int)(lv:Value)(ts:List aI)(l:List aS)(w:World)(G:∀w',Ext w w'->K w')(hp:IB K pv p)(hz:PZ p)(hR:∀w,K w->dA (λ_=>True) w lv ts)(hD:∀w,Y w->gy ts l w)(hKK:∀w,K w->Y w)(Ag:l.length<=1000)(D9:∀q∈l,q.cut.length<=1000) :
  CR 28 [j0 pv,hZ room,hZ c,lv] w (λv w'=>∃(ov:Value) (us:List aI) (ev:aI),v=.tuple #[ov,j0 ev,hZ (ea p room c l).2.2]/\(∀w,Y w->gy us (ea p room c l).1 w)/\kV (sep (bH ov us) (eF λw=>ml w ev (ea p room c l).2.1)) w w'):=by
 have u:=St.start w;refine eZ Tryz.func28 ?_;refine cG (x:=pv) u (λb4 w1 u=>aM u gd λb9 w2 u=>have u:=u.enc (cs':=kp (⟨0,0,0,bW⟩:aI)) rfl;aD eg u.p1.At (dM ayK (C13 K p pv room _ (λ_ e=>G _ (u.aG.then e)) hp hz) ?_));rintro v20 w3 (⟨h1,rfl,he⟩|⟨Z,h1,rfl,he⟩|⟨Z,hr,b,rfl,cJ⟩)
 .have u:=u.ext he;refine aN rfl (aN rfl (bX (aC (λ_=>?_) λh=>absurd h1 h)));have e:eP p room c=fk p:=by unfold eP;rw[ej h1]
  refine pop rh (aJ (x:=(⟨0,0,0,bW⟩:aI)) u eO rfl rfl λw4 u=>aD (x:=(⟨0,0,0,bW⟩:aI)) eO u.At ?_);rw[qq (by rw[e];exact h1),e];exact⟨_,[],_,rfl,λ_ _=>gy.nil,(St.join ((u.drop.drop.fr (Φ:=λw=>ml w (⟨0,0,0,bW⟩:aI) zE) wx).eM (α:=aI))).fresh⟩
 .have u:=u.ext he;refine aN rfl (aN rfl (bX (aC (λ_=>?_) λh=>absurd (by decide:(1:Int)≠0) h)));have e:eP p room c=1:=by unfold eP;rw[ei (by rw[Z];decide),ej h1]
  refine pop rh (aJ (x:=(⟨0,0,0,bW⟩:aI)) u eO rfl rfl λw4 u=>aD (x:=(⟨0,0,0,bW⟩:aI)) eO u.At ?_);rw[qq (by rw[e];decide),e];exact⟨_,[],_,rfl,λ_ _=>gy.nil,(St.join ((u.drop.drop.fr (Φ:=λw=>ml w (⟨0,0,0,bW⟩:aI) zE) wx).eM (α:=aI))).fresh⟩
 have zq:=vR Z;have u:=u.made cJ;refine aN rfl (aN rfl (bX (aC (λh=>absurd rfl h) λ_=>?_)));refine⟨λjv w'=>jv=.bool (decide (c<0\/8<c))/\w'=w3,?_,?_⟩
 .exact aR (aC (λh=>⟨vb (ew (.inl h)).symm,rfl⟩) λ_=>cN ⟨vb (ga.2 bO),rfl⟩)
 rintro _ _ ⟨rfl,rfl⟩ _;refine aC (λh2=>?_) (λh2=>?_)
 .have e:eP p room c=1:=by unfold eP;rw[ei (by rw[Z];decide),ei bO,ej h2]
  refine pop rh (aJ (x:=(⟨0,0,0,bW⟩:aI)) u.p1 eO rfl rfl λ_ u=>aD (x:=(⟨0,0,0,bW⟩:aI)) eO u.At ?_);rw[qq (by rw[e];decide),e];exact⟨_,[],_,rfl,λ_ _=>gy.nil,(St.join ((u.drop.drop.drop.fr (Φ:=λw=>ml w (⟨0,0,0,bW⟩:aI) zE) wx).eM (α:=aI))).fresh⟩
 have hse:eP p room c=0:=by unfold eP;rw[ei (by rw[Z];decide),ei bO,ei h2]
 have O:∀w,K w->dA (λ_=>True) w lv ts/\gy ts l w:=λw h=>⟨hR w h,hD w (hKK w h)⟩;have hn:ts.length=l.length:=(O _ (G _ u.aG)).2.1;refine bD ([]:List aI) u fO rfl rfl (dL rfl) (λx34 _ u=>?_)
 refine⟨λmm o y w'=>∃(k:Nat) (m:gU) (out:List aS) (us:List aI),y=hZ (k:Int)/\mm=ts.length-k/\k<=l.length/\us.length<=k/\(∀w,Y w->gy us out w)/\tg p k m/\(fu c (iw p room) l)=((fu c m (l.drop k)).1,out++(fu c m (l.drop k)).2)/\St w aZ [bH o us,qT K b m,bY b9 (kp (⟨0,0,0,bW⟩:aI)),bY b4 (kp pv)] w',
  ⟨_,0,iw p room,[],[],rfl,rfl,l6 _,pb _,λ_ _=>gy.nil,tg.new hz zq hr,rfl,u⟩,?_⟩
 rintro mm ov _ w8 ⟨k,m,out,us,rfl,rfl,hk,ho,I,B,E,u⟩ _;have U:=B.go;have Dt:=B.fi.trans (by rw[U.pr]:eW p=eW m.p);refine aK fO (O _ (G _ u.aG)).1 (aR (aC (λc1=>?_) λc1=>?_));rotate_left
 .rw[Jg bO]at E;have E:(fu c (iw p room) l)=(m,out):=E.trans (by show(m,out++[])=_;rw[pd]);refine dM azw (C97 K b m _ u.p1.has (λ_ e=>G _ (u.aG.then e)) U.ok B.vo Dt) ?_;rintro _ w9 ⟨e2,rfl,cJ⟩;have u:=u.made cJ;refine aJ (x:=e2) u.p3 eO rfl rfl (λ_ u=>aD (x:=e2) eO u.At ?_);rw[vV hse,E];exact⟨ov,us,e2,rfl,I,(St.join u.drop.p2.drop.p2.drop.p1).fresh⟩
 obtain⟨q,hq⟩:=gx l (i:=k) bO;obtain⟨tq,W⟩:=gx ts (i:=((k:Nat):Int).toNat) bO;have hqd:∀w',K w'->ml w' tq q:=λw' h=>(O w' h).2.2 k tq q W hq;obtain⟨gc,rfl,_⟩:=hqd _ (G _ u.aG)
 have hgc:∀w',K w'->dA (λ_=>True) w' (j0 gc) q.cut:=λw' h=>by
  obtain⟨gc2,e,h3⟩:=hqd w' h;cases e
  exact DL.flat h3
 have hqc:=D9 q (la hq);rw[IC hq]at E;have rB:=U.mb.mono (b:=1000000) bO;have De:=U.cr;refine⟨λo' w'=>∃(m':gU) (Vt:List aS) (J:List aI),J.length<=k+1/\(∀w,Y w->gy J Vt w)/\tg p (k+1) m'/\(fu c (iw p room) l)=((fu c m' (l.drop (k+1))).1,Vt++(fu c m' (l.drop (k+1))).2)/\St w aZ [bH o' J,qT K b m',bY b9 (kp (⟨0,0,0,bW⟩:aI)),bY b4 (kp pv)] w',?_,?_⟩;rotate_left
 .rintro o2 w9 ⟨m2,alJ,ID,h1,h2,h3,h4,u⟩ v8;exact aO bO ⟨ts.length-(k+1),bO,k+1,m2,alJ,ID,rfl,rfl,bO,h1,h2,h3,h4,u⟩
 refine⟨λjv w'=>jv=.bool (decide (¬ (q.kind=3/\c<=m.bZ)))/\w'=w8,?_,?_⟩
 .refine aQ fO (O _ (G _ u.aG)).1 bO W (λq37 M=>bV q.kind mZ M rfl rfl λr g=>aD (x:=q.kind) bL g (bX (aC (λV=>⟨vb (ew (p:=¬ (q.kind=3/\c<=m.bZ)) λh=>V h.1).symm,rfl⟩) λV=>?_)));obtain⟨a,hra⟩:=qT.rd u.p1.has;exact aE (aA DB (bN bL (hra.b.cell (o:=7) rfl) (aR ⟨vb (ga.2 bO),rfl⟩)))
 rintro _ w9 ⟨rfl,rfl⟩ v8;refine aC (λV=>?_) (λV=>?_);rotate_left
 .rw[fu,ej (uh.1 V)]at E;exact⟨m,out,us,bO,I,B.mono bO,E,u⟩
 rw[fu,ei V]at E;refine aQ fO (O _ (G _ u.aG)).1 bO W (λq37 M=>aD j8 M (bF ayO u.p1 (H':=λ_=>qT K b (oP m q).1) (Φ:=λv _=>v=.tuple #[j0 (oP m q).2.1,hZ (oP m q).2.2]) (λF2 ef dX=>?_) ?_))
 .exact C25 K b m q gc F2 _ ef (λw' hc=>G _ (dX w' hc).aG) U.ok B.vo (U.pr▸zq) rB bO Dt (λw1 hc _ e=>G _ ((dX w1 hc).aG.then e)) (λw' hc=>hgc _ (G _ (dX w' hc).aG)) hqc
 rintro _ _ rfl u;refine aN rfl (aN rfl (aM u mz λb16 _ u=>aJ (x:=(oP m q).2.1) u fo rfl rfl λ_ u=>have u:=u.drop.p1;aH (aC (λc3=>?_) λc3=>?_)));rotate_left
 .rw[ej c3]at E;exact⟨_,out,us,bO,I,B.step zq,E,u⟩
 rw[ei (by rw[c3];decide)]at E;refine aQ fO (O _ (G _ u.aG)).1 bO W (λq38 h38=>aD j8 h38 (bD [(⟨q.kind,q.t,q.i,gc⟩:aI)] u fO rfl rfl (dL rfl) λs64 _ u=>?_));have alA:=u.dS;exact bJ u.p1 fO alA (by rw[mv];omega) dD (λ_ _ u=>⟨_,out++[q],us++[(⟨q.kind,q.t,q.i,gc⟩:aI)],by rw[l1,mv];omega,λw h=>(I w h).snoc ((hD w h).2 k _ q W hq),B.step zq,by rw[E,n5];rfl,u.p1.drop⟩)
variable (w:World) (K:Value->hM)
def P35:dI:=λi=>match i with
 | 15=>.run 0 5
 | _=>.nil
def azF:dI:=λi=>match i with
 | 1=>(.op 0 [] (.op 1 [] (.op 2 [] (.op 3 [] (.op 4 [] (.alt 5 [0,1,2] (.alt 6 [] (.of [(7,[]),(8,[]),(9,[]),(10,[]),(11,[0,1,2,3]),(12,[]),(13,[]),(14,[])]) (.alt 11 [0,1,2,3] (.of [(6,[]),(7,[]),(8,[]),(9,[]),(10,[]),(12,[]),(13,[]),(14,[])]) .stop)) (.alt 11 [0,1,2,3] (.of [(5,[0,1,2]),(6,[]),(7,[]),(8,[]),(9,[]),(10,[]),(12,[]),(13,[]),(14,[])]) .stop)))))))
 | 4=>(.of [(0,[]),(1,[]),(2,[1]),(3,[])])
 | _=>.nil
def P36:dI:=λi=>match i with
 | 11=>(.op 0 [] (.op 1 [] (.op 2 [] (.op 3 [] (.op 4 [] (.alt 5 [0] (.alt 6 [] (.of [(7,[]),(8,[]),(9,[]),(10,[]),(11,[0]),(12,[]),(13,[]),(14,[])]) (.alt 11 [0] (.of [(6,[]),(7,[]),(8,[]),(9,[]),(10,[]),(12,[]),(13,[]),(14,[])]) .stop)) (.alt 11 [0] (.of [(5,[0]),(6,[]),(7,[]),(8,[]),(9,[]),(10,[]),(12,[]),(13,[]),(14,[])]) .stop)))))))
 | 17=>.run 0 5
 | _=>.nil
theorem abn:PL 35:=dJ Tryz.func35
theorem asD:PL 100:=dJ Tryz.func100
theorem azG:PL 36:=dJ Tryz.func36
end Go.Proofs.YtpdlpabnlkofmaaGreatDoor
namespace Go.Proofs.YtpdlpabnlkofmaaGreatDoor
open Go.Fw
theorem xX{p:cB}{room c:Int}{l:List aS}(h:(ea p room c l).2.2≠0):gg p room c l=([],zE,(ea p room c l).2.2):=by unfold gg;rw[ej h]
theorem xY{p:cB}{room c:Int}{l:List aS}(h:(ea p room c l).2.2=0)(h2:(ea p room c l).1.length≠l.length\/yK (ea p room c l).2.1=false):gg p room c l=([],zE,13):=by unfold gg;rw[ei (by rw[h];decide),ej h2]
theorem xZ{p:cB}{room c:Int}{l:List aS}(h:(ea p room c l).2.2=0)(h2:¬ ((ea p room c l).1.length≠l.length\/yK (ea p room c l).2.1=false)):gg p room c l=((nx (fD p room c) (ea p room c l).1 (ea p room c l).2.1).1,(nx (fD p room c) (ea p room c l).1 (ea p room c l).2.1).2,0):=by unfold gg;rw[ei (by rw[h];decide),ei h2];rfl
theorem jn(p:cB)(room c:Int)(s:List aS):(fD p room c s).1.length<=s.length:=vm
def Oy(bs be:Nat)(s:List aS)(e:aS):HP:=pM λsv:SV=>pM λev:aI=>sep (bY bs [j0 sv]) (sep (bY be (kp ev)) (eF λw=>DL w (j0 sv) s/\ml w ev e))
section
variable {w0 w:World}{A:Nat->Prop}{L:List HP}{bs be:Nat}{s:List aS}{e:aS}
theorem Oy.open(u:St w0 A (Oy bs be s e::L) w):∃(sv:SV) (ev:aI),St w0 A (bY bs [j0 sv]::bY be (kp ev)::Fw.eF (λw=>DL w (j0 sv) s/\ml w ev e)::L) w:=by
 obtain⟨sv,u⟩:=u.eo
 obtain⟨ev,u⟩:=u.eo
 have u:=u.split.p1.split
 exact⟨sv,ev,u.p2⟩
theorem Oy.shut{sv:SV}{ev:aI}(u:St w0 A (bY bs [j0 sv]::bY be (kp ev)::Fw.eF (λw=>DL w (j0 sv) s/\ml w ev e)::L) w):St w0 A (Oy bs be s e::L) w:=by
 have u:=St.join u.p2.p2
 have u:=St.join u.p1
 exact St.ep sv (St.ep ev u)
end
def C100(K:hM)(p:cB)(pv:bP)(room c:Int)(bp br bc bs be k:Nat)(s:List aS)(e:aS)(F:Nat->Prop)(w:World)(hF:(Oy bs be s e).p w F)(J:∀w',gz F w w'->mW w' bp (kp pv))(I:∀w',gz F w w'->mW w' br [hZ room])(E:∀w',gz F w w'->mW w' bc [hZ c])(U:∀w1,gz F w w1->∀w2,Ext w1 w2->K w2)(hp:IB K pv p)(hz:PZ p)(Ag:s.length<=1000)(D9:∀q∈s,q.cut.length<=1000) :
  CR 100 [hZ (k:Int),.pointer (some ⟨bp,0,none⟩),.pointer (some ⟨br,0,none⟩),.pointer (some ⟨bc,0,none⟩),.pointer (some ⟨bs,0,none⟩),.pointer (some ⟨be,0,none⟩)] w (λv w'=>v=.bool (jm ((fD p room c) (oK s (k:Int))).2 e)/\mU F (Oy bs be (if jm ((fD p room c) (oK s (k:Int))).2 e=true then((fD p room c) (oK s (k:Int))).1 else s) (if jm ((fD p room c) (oK s (k:Int))).2 e=true then((fD p room c) (oK s (k:Int))).2 else e)) w w'):=by
 obtain⟨sv,ev,u⟩:=Oy.open (St.begin hF);refine oL Tryz.func100 (pl:=azF) ?_;obtain⟨M,u,hX⟩:=u.p2.MX;obtain⟨G,ewS⟩:∃G,G=w:=⟨_,rfl⟩;rw[show ph M w=ph M G by rw[ewS]]at u;rw[<- ewS]at hX;obtain⟨ts,Y⟩:GS (ph M G) (j0 sv) s:=GS.of λw' h=>(hX w' h).1;have hn:ts.length=s.length:=(Y _ u.eF).2.1;refine⟨λtv xv w'=>∃(O:Nat) (ov:Value) (B:aI),tv=ov/\xv=.pointer (some ⟨O,0,none⟩)/\St w F [bY O (kp B),eF (λw=>DL w ov ((fD p room c) (oK s (k:Int))).1/\ml w B ((fD p room c) (oK s (k:Int))).2),eF (ph M G),bY bs [j0 sv],bY be (kp ev)] w',?_,?_⟩
 .have u:=u.drew;refine qm pv eg (J _ u.aG) rfl (bN bL ((I _ u.aG).cell (o:=0) rfl) (bN bL ((E _ u.aG).cell (o:=0) rfl) (aB (v:=j0 sv) I1 u.p1.hb rfl ⟨dU Vr u (C30 (ph M G) _ ts (k:Int) _ (λ_ e=>(u.ext e).eF) (λw h=>(Y w h).1) bO) (λV _ W u=>⟨jB pv eg (J _ u.aG) rfl,⟨aF bL ((I _ u.aG).cell (o:=0) rfl),⟨aF bL ((E _ u.aG).cell (o:=0) rfl),⟨?_,?_,trivial⟩⟩⟩⟩),?_,trivial⟩)))
  .refine dM Vs (C27 (λw'=>K w'/\(ph M G) w'/\((ph M G) w'->dA (λ_=>True) w' V (oK ts (k:Int)))) p pv room c V (oK s (k:Int)) _ (λ_ e=>⟨U _ u.aG _ e,(u.ext e).p1.eF,(u.ext e).eF⟩) (hp.mono λ_ h=>h.1) hz ⟨_,λw' h=>⟨h.2.2 h.2.1,CE (Y w' h.2.1).2⟩⟩ (by have:=ua s (k:Int);omega) λq Z=>D9 q (yC Z)) ?_;rintro _ _ ⟨ov,B,rfl,W⟩;have u:=u.made W;refine aN rfl (aN rfl (aN rfl (aM u gd λO _ u=>?_)));refine⟨jB pv eg (J _ u.aG) rfl,?_⟩;refine⟨aF bL ((I _ u.aG).cell (o:=0) rfl),?_⟩;refine⟨aF bL ((E _ u.aG).cell (o:=0) rfl),?_⟩
   refine⟨aF I1 (u.p4.hb.cell rfl),?_⟩;exact aJ (x:=B) u eO rfl rfl (λ_ u=>have u:=u.p2.drop.p4.p4.p4.p4.p4;⟨O,ov,B,rfl,rfl,u⟩)
  .refine aM u gd (λO _ u=>?_);refine⟨jB pv eg (J _ u.aG) rfl,?_⟩;refine⟨aF bL ((I _ u.aG).cell (o:=0) rfl),?_⟩;refine⟨aF bL ((E _ u.aG).cell (o:=0) rfl),?_⟩;refine⟨aF I1 (u.p3.hb.cell rfl),?_⟩;refine dM Vs (C27 (λw'=>K w'/\(ph M G) w'/\((ph M G) w'->dA (λ_=>True) w' V (oK ts (k:Int)))) p pv room c V (oK s (k:Int)) _ (λ_ e=>⟨U _ u.aG _ e,(u.ext e).p2.eF,(u.ext e).p1.eF⟩) (hp.mono λ_ h=>h.1) hz ⟨_,λw' h=>⟨h.2.2 h.2.1,CE (Y w' h.2.1).2⟩⟩ (by have:=ua s (k:Int);omega) λq Z=>D9 q (yC Z)) ?_;rintro _ _ ⟨ov,B,rfl,W⟩;have u:=u.made W
   exact aN rfl (aN rfl (aN rfl (aJ (x:=B) u.p1 eO rfl rfl λ_ u=>have u:=u.p2.drop.p4.p4.p4.p4.p4;⟨O,ov,B,rfl,rfl,u⟩)))
  refine aM u gd (λO _ u=>?_);refine⟨jB pv eg (J _ u.aG) rfl,?_⟩;refine⟨aF bL ((I _ u.aG).cell (o:=0) rfl),?_⟩;refine⟨aF bL ((E _ u.aG).cell (o:=0) rfl),?_⟩;refine⟨aF I1 (u.p2.hb.cell rfl),?_⟩;refine dU Vr u (C30 (ph M G) _ ts (k:Int) _ (λ_ e=>(u.ext e).p1.eF) (λw h=>(Y w h).1) bO) (λV _ W u=>?_);refine⟨jB pv eg (J _ u.aG) rfl,?_⟩;refine⟨aF bL ((I _ u.aG).cell (o:=0) rfl),?_⟩;refine⟨aF bL ((E _ u.aG).cell (o:=0) rfl),?_⟩;refine dM Vs (C27 (λw'=>K w'/\(ph M G) w'/\((ph M G) w'->dA (λ_=>True) w' V (oK ts (k:Int)))) p pv room c V (oK s (k:Int)) _ (λ_ e=>⟨U _ u.aG _ e,(u.ext e).p2.eF,(u.ext e).eF⟩) (hp.mono λ_ h=>h.1) hz ⟨_,λw' h=>⟨h.2.2 h.2.1,CE (Y w' h.2.1).2⟩⟩ (by have:=ua s (k:Int);omega) λq Z=>D9 q (yC Z)) ?_
  rintro _ _ ⟨ov,B,rfl,W⟩;have u:=u.made W;exact aN rfl (aN rfl (aN rfl (aJ (x:=B) u.p2 eO rfl rfl λ_ u=>have u:=u.p2.drop.p4.p4.p4.p4.p4;⟨O,ov,B,rfl,rfl,u⟩)))
 rintro _ _ _ ⟨O,ov,B,rfl,rfl,u⟩ _;obtain⟨V7,Tt⟩:=u.p1.eF;have hev:=(hX _ u.p2.eF).2;refine aD (x:=B) eO u.At (aD (x:=ev) eO u.p4.At (aV abk u (C32 _ B e ev _ Tt hev) λ_ he u=>bR (aY (λc1=>?_) λc1=>?_)))
 .have c2:jm ((fD p room c) (oK s (k:Int))).2 e=false:=by simpa using c1
  rw[c2];have u:=u.drop.drop.dN hX;exact⟨rfl,(Oy.shut u.p1.p2.p1).mut⟩
 have c2:jm ((fD p room c) (oK s (k:Int))).2 e=true:=by simpa using c1
 rw[c2];obtain⟨tw,hrw,_⟩:=V7.open;obtain⟨oa,oc,rfl,_⟩:=id hrw;have u:=u.drew;refine aD (x:=B) eO u.At (aT u.p3 I1 (dL rfl) rfl λ_ u=>?_);refine⟨eA eO u.p1.At,?_⟩;exact aJ (x:=B) u.p4 eO rfl rfl (λ_ u=>have u:=u.p2.drop.p3.drop;⟨rfl,(Oy.shut (sv:=⟨oa,tw.length,oc⟩) u.p1).mut⟩)
theorem C35(K:hM)(p:cB)(pv:bP)(room c:Int)(lv:Value)(l:List aS)(w:World)(hw:∀w',Ext w w'->K w')(hp:IB K pv p)(hz:PZ p)(hl:GS K lv l)(Ag:l.length<=1000)(D9:∀q∈l,q.cut.length<=1000) :
  CR 35 [j0 pv,hZ room,hZ c,lv] w (λv w'=>∃(ov:Value) (ev:aI),v=.tuple #[ov,j0 ev,hZ (gg p room c l).2.2]/\kV (eF λw=>DL w ov (gg p room c l).1/\ml w ev (gg p room c l).2.1) w w'):=by
 have u:=St.start w;refine oL Tryz.func35 (pl:=P35) ?_;refine cG (x:=pv) u (λb4 w1 u=>cG (x:=room) u λW w2 u=>cG (x:=c) u λb6 _ u=>aM u gd λb9 _ u=>have u:=u.enc (cs':=kp (⟨0,0,0,bW⟩:aI)) rfl;aD eg u.p3.At (aB (v:=hZ room) bL u.p2.hb rfl (aB (v:=hZ c) bL u.p1.hb rfl (dM Vs (C27 K p pv room c lv l _ (λ_ e=>hw _ (u.aG.then e)) hp hz hl Ag D9) ?_))));rintro _ _ ⟨ov,ev,rfl,cJ⟩;have u:=u.made cJ;refine aN rfl (aN rfl (aN rfl ?_));obtain⟨V7,Tt⟩:=u.eF;obtain⟨t1,BW,_⟩:=V7.open;obtain⟨oa,oc,rfl,_⟩:=id BW
 refine gF u ahR rfl (λE _ u=>aM u gd λO _ u=>aT u.p1 I1 (dL rfl) rfl λ_ u=>aJ (x:=ev) u.p1 eO rfl rfl λ_ u=>bX (aC (λc1=>?_) λc1=>?_))
 .refine pop rh (aJ (x:=(⟨0,0,0,bW⟩:aI)) u.p3 eO rfl rfl λw10 u=>aD (x:=(⟨0,0,0,bW⟩:aI)) eO u.At ?_);rw[xX c1];exact⟨_,_,rfl,(u.drop.drop.drop.drop.drop.drop.drop.fr (Φ:=λw=>DL w (.slice none 0 0) []/\ml w (⟨0,0,0,bW⟩:aI) zE) λw=>⟨DL.nil w,wx w⟩).fresh⟩
 have c0:(ea p room c l).2.2=0:=uh.1 c1;obtain⟨V7,Tt⟩:=u.p2.eF;obtain⟨t2,Dz,azH⟩:=V7.open;have Dy:t2.length=(ea p room c l).1.length:=azH.1;refine⟨λjv w'=>jv=.bool (decide ((ea p room c l).1.length≠l.length\/yK (ea p room c l).2.1=false))/\St w aZ [bY O (kp ev),bY E [j0 (⟨oa,t1.length,oc⟩:SV)],eF (λw=>DL w (.slice oa t1.length oc) (ea p room c l).1/\ml w ev (ea p room c l).2.1),bY b9 (kp (⟨0,0,0,bW⟩:aI)),bY b6 (kp c),bY W (kp room),bY b4 (kp pv)] w',?_,?_⟩
 .refine aB (v:=.slice oa t1.length oc) I1 u.p1.hb rfl (aK fO Dz ?_);obtain⟨ts,vT⟩:=hl;have hn:ts.length=l.length:=(vT _ (hw _ u.aG)).2.1;refine aK fO (vT _ (hw _ u.aG)).1 (bX (aC (λ_=>⟨vb (ew (.inl bO)).symm,u⟩) λc2=>aD (x:=ev) eO u.At (aV azy u (C99 _ ev _ Tt) λw10 he u=>bR ?_)));refine⟨vb ?_,u⟩;cases hb:yK (ea p room c l).2.1 with
  | true=>exact(fP λh=>h.elim (λh=>h bO) λh=>by cases h).symm
  | false=>exact(ew (.inr rfl)).symm
 rintro _ _ ⟨rfl,u⟩ _;refine aC (λc2=>?_) (λc2=>?_)
 .refine pop rh (aJ (x:=(⟨0,0,0,bW⟩:aI)) u.p3 eO rfl rfl λ_ u=>aD (x:=(⟨0,0,0,bW⟩:aI)) eO u.At ?_);rw[xY c0 c2];exact⟨_,_,rfl,(u.drop.drop.drop.drop.drop.drop.drop.fr (Φ:=λw=>DL w (.slice none 0 0) []/\ml w (⟨0,0,0,bW⟩:aI) zE) λw=>⟨DL.nil w,wx w⟩).fresh⟩
 have U:=Oy.shut (sv:=⟨oa,t1.length,oc⟩) u.p1
 refine⟨λmm y w'=>∃(s:List aS) (e:aS) (ch:Bool),y=.bool ch/\mm=2*s.length+(if ch=true then 1 else 0)/\(s.length<=l.length/\(∀q∈s,q∈l)/\nx (fD p room c) (ea p room c l).1 (ea p room c l).2.1=(if ch=true then nx (fD p room c) s e else(s,e)))/\St w aZ [Oy E O s e,bY b9 (kp (⟨0,0,0,bW⟩:aI)),bY b6 (kp c),bY W (kp room),bY b4 (kp pv)] w',
  ⟨_,(ea p room c l).1,(ea p room c l).2.1,true,rfl,rfl,⟨vm,λ_ Z=>qf.subset Z,rfl⟩,U⟩,?_⟩
 clear u U
 rintro mm _ _ ⟨s,e,ch,rfl,rfl,⟨Ol,hsm,mc⟩,u⟩ _;refine aY (λc3=>?_) (λc3=>?_)
 .rw[ej c3]at mc;refine⟨λnn y1 y2 w'=>∃(k:Nat) (B:List aS) (G:aS) (M:Bool),y1=.bool M/\y2=hZ (k:Int)/\nn=B.length-k/\(B.length<=l.length/\(∀q∈B,q∈l)/\k<=1000/\km (fD p room c) s e 0 false=km (fD p room c) B G k M)/\St w aZ [Oy E O B G,bY b9 (kp (⟨0,0,0,bW⟩:aI)),bY b6 (kp c),bY W (kp room),bY b4 (kp pv)] w',⟨_,0,s,e,false,rfl,rfl,rfl,⟨Ol,hsm,l6 _,rfl⟩,u⟩,?_⟩
  clear u
  rintro nn _ _ _ ⟨k,B,G,M,rfl,rfl,rfl,⟨Y,Gm,hk,J⟩,u⟩ _;obtain⟨sv,V,u⟩:=Oy.open u;obtain⟨hd3,hd4⟩:=u.p2.eF;obtain⟨t3,Nu,azJ⟩:=hd3.open;have hl3:t3.length=B.length:=azJ.1;refine aB (v:=j0 sv) I1 u.hb rfl (aK fO Nu (have u:=Oy.shut u;aR (aC (λc4=>?_) λc4=>?_)))
  .have yX:k<B.length:=bO
   have hwo:oK B (k:Int)=B.eraseIdx k:=Rd yX;refine A8 (first:=[]) (cap:=[.pointer (some ⟨b4,0,none⟩),.pointer (some ⟨W,0,none⟩),.pointer (some ⟨b6,0,none⟩),.pointer (some ⟨E,0,none⟩),.pointer (some ⟨O,0,none⟩)]) (H':=λ_=>Oy E O (if jm ((fD p room c) (oK B (k:Int))).2 G=true then((fD p room c) (oK B (k:Int))).1 else B) (if jm ((fD p room c) (oK B (k:Int))).2 G=true then((fD p room c) (oK B (k:Int))).2 else G)) (Φ:=λv _=>v=.bool (jm ((fD p room c) (oK B (k:Int))).2 G)) asD u (λF hF dX=>?_) ?_
   .exact C100 K p pv room c b4 W b6 E O k B G F _ hF (λw' hc=>(dX w' hc).p3.hb) (λw' hc=>(dX w' hc).p2.hb) (λw' hc=>(dX w' hc).p1.hb) (λw1 hc _ e=>hw _ ((dX w1 hc).aG.then e)) hp hz bO (λq Z=>D9 q (Gm q Z))
   rintro _ _ rfl u;refine aY (λI=>?_) (λI=>?_)
   .rw[ej I,ej I]at u;have EU:=jn p room c (oK B (k:Int));have VL:=oI yX;rw[hwo]at u I EU;refine⟨_,?_,k,((fD p room c) (B.eraseIdx k)).1,((fD p room c) (B.eraseIdx k)).2,true,rfl,rfl,rfl,⟨bO,λq Z=>Gm q (H5 ((qf (l:=B.eraseIdx k)).subset Z)),hk,J.trans (vn (jn p room c) yX I)⟩,u⟩;omega
   rw[ei (by rw[I];decide),ei (by rw[I];decide)]at u;rw[hwo]at I;refine aO bO ?_;refine⟨_,?_,k+1,B,G,M,rfl,rfl,rfl,⟨Y,Gm,bO,J.trans (xW (jn p room c) yX (by rw[I];decide))⟩,u⟩;omega
  rw[oJ (D:=(fD p room c)) (s:=B) (e:=G) (k:=k) (ch:=M) bO]at J;have nz:=qg (jn p room c) (s.length+1) s e 0 false bO;rw[J]at nz;refine⟨_,?_,B,G,M,rfl,rfl,⟨Y,Gm,?_⟩,u⟩
  .rw[ej c3];cases M with
   | true=>have:=nz.2 rfl rfl;show 2*B.length+1<_;dsimp only at this;omega
   | false=>have:=nz.1;show 2*B.length+0<_;dsimp only at this;omega
  rw[mc];cases M with
  | true=>rw[ej rfl,CD (jn p room c) (by rw[J]),J]
  | false=>rw[ei dD,Ad (by rw[J]),J]
 rw[ei (by rw[c3];decide)]at mc;obtain⟨sv,V,u⟩:=Oy.open u;have u:=u.drew;refine aB (v:=j0 sv) I1 u.hb rfl (aD (x:=V) eO u.p1.At (aJ (x:=V) u.p3 eO rfl rfl λ_ u=>aD (x:=V) eO u.At ?_));rw[xZ c0 c2,mc];have u:=u.drop.drop.drop;exact⟨_,V,rfl,u.p1.drop.p1.drop.p1.drop.fresh⟩
theorem C36(K:hM)(p:cB)(pv:bP)(room c:Int)(lv:Value)(l:List aS)(w:World)(hw:∀w',Ext w w'->K w')(hp:IB K pv p)(hz:PZ p)(hl:GS K lv l)(Ag:l.length<=1000)(D9:∀q∈l,q.cut.length<=1000) :
  CR 36 [j0 pv,hZ room,hZ c,lv] w (λv w'=>∃(ov:Value) (us:List aI) (ev:aI),v=.tuple #[ov,j0 ev,hZ (gg p room c l).2.2]/\(∀w,K w->gy us (gg p room c l).1 w)/\kV (sep (bH ov us) (eF λw=>ml w ev (gg p room c l).2.1)) w w'):=by
 have u:=St.start w;refine oL Tryz.func36 (pl:=P36) ?_;obtain⟨ts,vT⟩:=hl;have hn:ts.length=l.length:=(vT _ (hw _ (Ext.refl _))).2.1;refine cG (x:=pv) u (λb4 _ u=>aM u gd λb9 _ u=>have u:=u.enc (cs':=kp (⟨0,0,0,bW⟩:aI)) rfl;aD eg u.p1.At (dM afj (C28 K K p pv room c lv ts l _ (λ_ e=>hw _ (u.aG.then e)) hp hz (λw h=>(vT w h).1) (λw h=>(vT w h).2) (λ_ h=>h) Ag D9) ?_));rintro _ _ ⟨ov,us,ev,rfl,hus,V⟩;have u:=(u.made V).split;refine aN rfl (aN rfl (aN rfl (aM u gd λTB _ u=>aJ (x:=ev) u eO rfl rfl λ_ u=>bX (aC (λc1=>?_) λc1=>?_))))
 .refine pop rh (aJ (x:=(⟨0,0,0,bW⟩:aI)) u.p3 eO rfl rfl λ_ u=>aD (x:=(⟨0,0,0,bW⟩:aI)) eO u.At ?_);rw[xX c1];exact⟨_,[],_,rfl,λ_ _=>gy.nil,(St.join ((u.drop.drop.drop.drop.drop.fr (Φ:=λw=>ml w (⟨0,0,0,bW⟩:aI) zE) wx).eM (α:=aI))).fresh⟩
 have c0:(ea p room c l).2.2=0:=uh.1 c1;have hul:us.length=(ea p room c l).1.length:=(hus _ (hw _ u.aG)).1;have EU:=vm (p:=p) (room:=room) (c:=c) (l:=l);refine⟨λjv w'=>jv=.bool (decide ((ea p room c l).1.length≠l.length\/yK (ea p room c l).2.1=false))/\St w aZ [bY TB (kp ev),bH ov us,eF (λw=>ml w ev (ea p room c l).2.1),bY b9 (kp (⟨0,0,0,bW⟩:aI)),bY b4 (kp pv)] w',?_,?_⟩
 .refine aK fO u.p1.dS (aK fO (vT _ (hw _ u.aG)).1 (aR (aC (λ_=>⟨vb (ew (.inl bO)).symm,u⟩) λc2=>aD (x:=ev) eO u.At (aV azx u (C39 _ ev _ u.p2.eF) λ_ he u=>bR ?_))));refine⟨vb ?_,u⟩;cases hb:yK (ea p room c l).2.1 with
  | true=>exact(fP λh=>h.elim (λh=>h bO) λh=>by cases h).symm
  | false=>exact(ew (.inr rfl)).symm
 rintro _ _ ⟨rfl,u⟩ _;refine aC (λc2=>?_) (λc2=>?_)
 .refine pop rh (aJ (x:=(⟨0,0,0,bW⟩:aI)) u.p3 eO rfl rfl λ_ u=>aD (x:=(⟨0,0,0,bW⟩:aI)) eO u.At ?_);rw[xY c0 c2];exact⟨_,[],_,rfl,λ_ _=>gy.nil,(St.join ((u.drop.drop.drop.drop.drop.fr (Φ:=λw=>ml w (⟨0,0,0,bW⟩:aI) zE) wx).eM (α:=aI))).fresh⟩
 refine⟨λmm sw y w'=>∃(s:List aS) (e:aS) (ch:Bool) (M:List aI) (VS:aI),y=.bool ch/\mm=2*s.length+(if ch=true then 1 else 0)/\(s.length<=l.length/\(∀q∈s,q∈l)/\nx (fD p room c) (ea p room c l).1 (ea p room c l).2.1=(if ch=true then nx (fD p room c) s e else(s,e)))/\(∀w,K w->gy M s w)/\St w aZ [bY TB (kp VS),bH sw M,eF (λw=>ml w VS e),bY b9 (kp (⟨0,0,0,bW⟩:aI)),bY b4 (kp pv)] w',
  ⟨_,(ea p room c l).1,(ea p room c l).2.1,true,us,ev,rfl,rfl,⟨vm,λ_ W=>qf.subset W,rfl⟩,hus,u⟩,?_⟩
 clear u
 rintro mm sv _ _ ⟨s,e,ch,M,VS,rfl,rfl,⟨Ol,hsm,mc⟩,asG,u⟩ _;refine aY (λc3=>?_) (λc3=>?_)
 .rw[ej c3]at mc;refine⟨λnn sw y1 y2 w'=>∃(k:Nat) (B:List aS) (Z:aS) (Oc:Bool) (I:List aI) (U:aI),y1=.bool Oc/\y2=hZ (k:Int)/\nn=B.length-k/\(B.length<=l.length/\(∀q∈B,q∈l)/\k<=1000/\km (fD p room c) s e 0 false=km (fD p room c) B Z k Oc)/\(∀w,K w->gy I B w)/\St w aZ [bY TB (kp U),bH sw I,eF (λw=>ml w U Z),bY b9 (kp (⟨0,0,0,bW⟩:aI)),bY b4 (kp pv)] w',⟨_,0,s,e,false,M,VS,rfl,rfl,rfl,⟨Ol,hsm,l6 _,rfl⟩,asG,u⟩,?_⟩
  clear u
  rintro nn GH _ _ _ ⟨k,B,Z,Oc,I,U,rfl,rfl,rfl,⟨abo,Gm,hk,qU⟩,Od,u⟩ _;have hl3:I.length=B.length:=(Od _ (hw _ u.aG)).1;refine aK fO u.p1.dS (aR (aC (λc4=>?_) λc4=>?_))
  .have yX:k<B.length:=bO
   have hwo:oK B (k:Int)=B.eraseIdx k:=Rd yX;refine⟨λtv xv w'=>∃(O:Nat) (E:List aI) (G:aI),xv=.pointer (some ⟨O,0,none⟩)/\(∀w,K w->gy E ((fD p room c) (oK B (k:Int))).1 w)/\St w aZ [bY O (kp G),bH tv E,eF (λw=>ml w G ((fD p room c) (oK B (k:Int))).2),bY TB (kp U),bH GH I,eF (λw=>ml w U Z),bY b9 (kp (⟨0,0,0,bW⟩:aI)),bY b4 (kp pv)] w',?_,?_⟩
   .have u:=u.drew;refine aD eg u.p4.At ⟨dU asC u (C31 (λw'=>dA (λ_=>True) w' GH I) GH I (k:Int) _ (λ_ e=>((u.ext e).p1).dS) (λ_ h=>h) bO) (λJ _ V u=>⟨eA eg u.p5.At,⟨?_,?_,trivial⟩⟩),?_,trivial⟩
    .refine dM afj (C28 (λw'=>K w'/\dA (λ_=>True) w' J (oK I (k:Int))) K p pv room c J (oK I (k:Int)) (oK B (k:Int)) _ (λ_ e=>⟨hw _ (u.aG.then e),(u.ext e).eF ((u.ext e).p2).dS⟩) (hp.mono λ_ h=>h.1) hz (λ_ h=>h.2) (λw h=>CE (Od w h)) (λ_ h=>h.1) (by have:=ua B (k:Int);omega) λq W=>D9 q (Gm q (yC W))) ?_;rintro _ _ ⟨tv,E,G,rfl,Y,V⟩;have u:=(u.made V).split;refine aN rfl (aN rfl (aN rfl (aM u gd λO _ u=>?_)));refine⟨eA eg u.p8.At,?_⟩;exact aJ (x:=G) u eO rfl rfl (λ_ u=>have u:=u.p3.drop.p7.p7.p7.p7.p7.p7.p7.p7;⟨O,E,G,rfl,Y,u⟩)
    .refine aM u gd (λO _ u=>?_);refine⟨eA eg u.p6.At,?_⟩;refine dM afj (C28 (λw'=>K w'/\dA (λ_=>True) w' J (oK I (k:Int))) K p pv room c J (oK I (k:Int)) (oK B (k:Int)) _ (λ_ e=>⟨hw _ (u.aG.then e),(u.ext e).p1.eF ((u.ext e).p3).dS⟩) (hp.mono λ_ h=>h.1) hz (λ_ h=>h.2) (λw h=>CE (Od w h)) (λ_ h=>h.1) (by have:=ua B (k:Int);omega) λq W=>D9 q (Gm q (yC W))) ?_;rintro _ _ ⟨tv,E,G,rfl,Y,V⟩;have u:=(u.made V).split;exact aN rfl (aN rfl (aN rfl (aJ (x:=G) u.p2 eO rfl rfl λ_ u=>have u:=u.p3.drop.p7.p7.p7.p7.p7.p7.p7.p7;⟨O,E,G,rfl,Y,u⟩)))
    refine aM u gd (λO _ u=>?_);refine⟨eA eg u.p5.At,?_⟩;refine dU asC u (C31 (λw'=>dA (λ_=>True) w' GH I) GH I (k:Int) _ (λ_ e=>((u.ext e).p2).dS) (λ_ h=>h) bO) (λJ _ V u=>?_);refine⟨eA eg u.p6.At,?_⟩;refine dM afj (C28 (λw'=>K w'/\dA (λ_=>True) w' J (oK I (k:Int))) K p pv room c J (oK I (k:Int)) (oK B (k:Int)) _ (λ_ e=>⟨hw _ (u.aG.then e),(u.ext e).eF ((u.ext e).p3).dS⟩) (hp.mono λ_ h=>h.1) hz (λ_ h=>h.2) (λw h=>CE (Od w h)) (λ_ h=>h.1) (by have:=ua B (k:Int);omega) λq W=>D9 q (Gm q (yC W))) ?_;rintro _ _ ⟨tv,E,G,rfl,Y,V⟩
    have u:=(u.made V).split;exact aN rfl (aN rfl (aN rfl (aJ (x:=G) u.p3 eO rfl rfl λ_ u=>have u:=u.p3.drop.p7.p7.p7.p7.p7.p7.p7.p7;⟨O,E,G,rfl,Y,u⟩)))
   rintro tv _ _ ⟨O,E,G,rfl,Y,u⟩ _;have Tt:=u.p2.eF;have hev:=u.p5.eF;refine aD (x:=G) eO u.At (aD (x:=U) eO u.p3.At (aV azB u (C33 _ G Z U _ Tt hev) λ_ he u=>aY (λc5=>?_) λc5=>?_))
   .have EU:=jn p room c (oK B (k:Int));have VL:=oI yX;refine aD (x:=G) eO u.At (aJ (x:=G) u.p3 eO rfl rfl λ_ u=>?_);have u:=u.p1.drop.p3.drop.p3.drop;rw[hwo]at u c5 EU Y;refine⟨_,?_,k,((fD p room c) (B.eraseIdx k)).1,((fD p room c) (B.eraseIdx k)).2,true,E,G,rfl,rfl,rfl,⟨bO,λq W=>Gm q (H5 ((qf (l:=B.eraseIdx k)).subset W)),hk,qU.trans (vn (jn p room c) yX c5)⟩,Y,u⟩;omega
   rw[hwo]at c5;have u:=u.drop.drop.drop;refine aO bO ?_;refine⟨_,?_,k+1,B,Z,Oc,I,U,rfl,rfl,rfl,⟨abo,Gm,bO,qU.trans (xW (jn p room c) yX (by rw[c5];decide))⟩,Od,u⟩;omega
  rw[oJ (D:=(fD p room c)) (s:=B) (e:=Z) (k:=k) (ch:=Oc) bO]at qU;have nz:=qg (jn p room c) (s.length+1) s e 0 false bO;rw[qU]at nz;refine⟨_,?_,B,Z,Oc,I,U,rfl,rfl,⟨abo,Gm,?_⟩,Od,u⟩
  .rw[ej c3];cases Oc with
   | true=>have:=nz.2 rfl rfl;show 2*B.length+1<_;dsimp only at this;omega
   | false=>have:=nz.1;show 2*B.length+0<_;dsimp only at this;omega
  rw[mc];cases Oc with
  | true=>rw[ej rfl,CD (jn p room c) (by rw[qU]),qU]
  | false=>rw[ei dD,Ad (by rw[qU]),qU]
 rw[ei (by rw[c3];decide)]at mc;have u:=u.drew;refine aD (x:=VS) eO u.At (aJ (x:=VS) u.p3 eO rfl rfl λ_ u=>aD (x:=VS) eO u.At ?_);rw[xZ c0 c2,mc];have u:=u.drop.drop;exact⟨_,M,VS,rfl,asG,(St.join u.p2.drop).fresh⟩
def TC(u:Int):pr hH (mL 50 [(0,hZ u)].toArray)=some (.agg [hZ u,hZ 0,hZ 0,.slice none 0 0].toArray):=by kernel_rfl
def Of(u:Int)(E:Int)(B:Option Addr)(G I:Nat):pr hH (mL 63 [(0,hZ u),(1,hZ E),(3,.slice B G I)].toArray)=some (.agg [hZ u,hZ E,hZ 0,.slice B G I].toArray):=by kernel_rfl
def afk(u:Option Addr)(B E:Nat):pr hH (mL 63 [(3,.slice u B E)].toArray)=some (.agg [hZ 0,hZ 0,hZ 0,.slice u B E].toArray):=by kernel_rfl
section
variable {α σ:Type}[Flat σ] [Deep α σ] {w:World}
theorem fX{t:σ}{x:α}{ts:List σ}{xs:List α}(h:ml w t x)(g:gy ts xs w):gy (t::ts) (x::xs) w:=by
 grind[gy]
end
def rQ(w:World)(a b c:Int):ml w (⟨a,b,c,bW⟩:aI) (⟨a,b,c,[]⟩:aS):=⟨_,rfl,DL.nil w⟩
theorem e0(w:World){sv:SV}(a b c:Int){l:List Int}(h:dA (λ_=>True) w (j0 sv) l):ml w (⟨a,b,c,sv⟩:aI) (⟨a,b,c,l⟩:aS):=⟨_,rfl,DL.j4 h⟩
def ahu(t:ByteArray):Bool:=match wk t with
 | some r=>decide (r.1.length<=5000)&&r.1.all (λx=>decide (0<=x.at_/\x.at_<=1000000/\x.text.size<=1000000))
 | none=>false
def afl{t:ByteArray}(h:ahu t=true):∀l e a,wk t=some (l,e,a)->jl l:=by
 intro l e a u
 unfold ahu at h
 rw[u]at h
 simp only[Bool.and_eq_true,decide_eq_true_eq,List.all_eq_true]at h
 exact⟨h.1,λx B=>h.2 x B⟩
variable (w:World) (K:Value->hM)
def S34:Prop:=
 cF 65 [(Go.Value.string (kE (#[108,105,110,101,32,97,59,32,116,104,114,101,97,100,32,116,32,123,32,115,116,111,114,101,32,97,32,61,32,49,59,32,99,104,101,99,107,32,48,59,32,125,32,116,104,114,101,97,100,32,117,32,123,32,109,102,101,110,99,101,59,32,125])))] w λa b=>
 xT a 0 λc=>xT a 1 λ_=>xT a 2 λ_=>aL 27 b λp1 d=>sA 27 p1 c d λe=>eU hH (mL 50 [(0,(i 1))].toArray) λf=>eU hH (mL 50 [(0,(i 1)),(1,(i 1))].toArray) λg=>
 eU hH (mL 50 [(0,(i 2))].toArray) λh=>aL 50 e λE j=>aL 50 j λJ k=>aL 50 k λG l=>sA 50 E f l λn=>sA 50 J g n λo=>sA 50 G h o λp=>
 lA 50 J p λq=>lA 50 E p λr=>lA 50 G p λs=>lA 50 E p λt=>bS 39 4 [(0,q),(1,r),(2,s),(3,t)] p λu v=>lA 27 p1 v λx=>cF 35 [x,(i 2),(i 0),u] v λy z=>
 xT y 0 λaa=>xT y 1 λab=>xT y 2 λac=>aL 63 z λM ae=>sA 63 M ab ae λO=>lA 27 p1 O λag=>lA 50 G O λah=>lA 50 E O λai=>lA 50 G O λaj=>
 lA 50 J O λak=>lA 50 J O λal=>bS 39 5 [(0,ah),(1,ai),(2,aj),(3,ak),(4,al)] O λam an=>cF 27 [ag,(i 2),(i 0),am] an λao ap=>xT ao 0 λaq=>
 xT ao 1 λar=>xT ao 2 λasx=>aL 63 ap λV au=>sA 63 V ar au λav=>fg (λK1=>lA 27 p1 (drew av) λW=>eU hH (ob 39 u none (some (i 1)) none) λax=>
 ((cF 35 [W,(i 2),(i 0),ax] (drew av) λay az=>xT ay 0 λ_=>xT ay 1 λa0=>xT ay 2 λa1=>aL 63 az λa2 a3=>kA 27 p1 W a3 (sA 63 a2 a0 a3 λa4=>K1 a1 a4))
 /\((aL 63 (drew av) λa5 a6=>kA 27 p1 W a6 (cF 35 [W,(i 2),(i 0),ax] a6 λa7 a8=>xT a7 0 λ_=>xT a7 1 λa9=>xT a7 2 λba=>sA 63 a5 a9 a8 λbb=>K1 ba bb))
 /\
 True))) (λg16 U=>∀_:Env,
 lA 27 p1 U λbd=>lA 50 G U λbe=>lA 50 E U λbf=>lA 50 E U λbg=>bS 39 3 [(0,be),(1,bf),(2,bg)] U λbh bi=>cF 35 [bd,(i 2),(i 0),bh] bi λbj bk=>
 xT bj 0 λ_=>xT bj 1 λbl=>xT bj 2 λbm=>aL 63 bk λbn bo=>sA 63 bn bl bo λbp=>lA 27 p1 bp λbq=>cF 27 [bq,(i 2),(i 9),(.slice none 0 0)] bp λbr bs=>xT br 0 λ_=>
 xT br 1 λbt=>xT br 2 λbu=>aL 63 bs λbv bw=>sA 63 bv bt bw λbx=>fg (λK2=>lA 50 E (drew bx) λbz=>lA 50 E (drew bx) λb0=>bS 39 2 [(0,bz),(1,b0)] (drew bx) λb1 b2=>
 cF 19 [aa,b1] b2 λb3 b4=>cV b3 (lA 63 M b4 λb5=>bS 41 1 [(0,(i 0))] b4 λb6 b7=>kA 63 M b5 b7 (eU hH (mL 63 [(0,(i 3)),(1,(i 1)),(3,b6)].toArray) λb8=>
 cF 29 [b5,b8] b7 λb9 I=>cV b9 (bB .eql 31 ac (i 0) λcb=>cV cb (lA 50 E I λcc=>lA 50 G I λcd=>lA 50 J I λce=>bS 39 3 [(0,cc),(1,cd),(2,ce)] I λcf cg=>
 cF 19 [aq,cf] cg λch ci=>cV ch (lA 63 V ci λcj=>bS 41 1 [(0,(i 1))] ci λck cl=>kA 63 V cj cl (eU hH (mL 63 [(3,ck)].toArray) λcm=>cF 29 [cj,cm] cl λcn B=>
 cV cn (bB .eql 31 asx (i 0) λcp=>cV cp (bB .eql 31 g16 (i 13) λcq=>cV cq (bB .eql 31 bm (i 13) λcr=>cV cr (bB .eql 31 bu (i 1) λcs=>cV cs (lA 50 J B λZ=>
 lA 50 G B λcu=>lA 50 E B λcv=>((cF 30 [u,(i 1)] B λcw cx=>kA 50 J Z cx (kA 50 G cu cx (kA 50 E cv cx (bS 39 3 [(0,Z),(1,cu),(2,cv)] cx λcy cz=>
 cF 19 [cw,cy] cz λc0 c1=>cV c0 (cF 30 [u,(i 4)] c1 λc2 c3=>cF 19 [c2,u] c3 λc4 c5=>cV c4 (lA 63 M c5 λc6=>eU hH (mL 63 [(0,(i 3)),(1,(i 1))].toArray) λc7=>
 cF 32 [c6,c7] c5 λc8 c9=>cV c8 (lA 63 M c9 λda=>lA 63 V c9 λdb=>cF 32 [da,db] c9 λdc dd=>eU hH (Op.unary .not dc) λde=>K2 de dd) (K2 ff c9)) (K2 ff c5)) (
 K2 ff c1)))))
 /\((bS 39 3 [(0,Z),(1,cu),(2,cv)] B λdf dg=>cF 30 [u,(i 1)] dg λdh Y=>kA 50 J Z Y (kA 50 G cu Y (kA 50 E cv Y (cF 19 [dh,df] Y λdj dk=>cV dj (
 cF 30 [u,(i 4)] dk λdl dm=>cF 19 [dl,u] dm λdn dp=>cV dn (lA 63 M dp λdq=>eU hH (mL 63 [(0,(i 3)),(1,(i 1))].toArray) λdr=>cF 32 [dq,dr] dp λds dt=>
 cV ds (lA 63 M dt λdu=>lA 63 V dt λdv=>cF 32 [du,dv] dt λdw dx=>eU hH (Op.unary .not dw) λdy=>K2 dy dx) (K2 ff dt)) (K2 ff dp)) (K2 ff dk)))))
 /\
 True))) ((K2 ff B)
 /\((K2 ff B)
 /\
 True))) ((K2 ff B)
 /\((K2 ff B)
 /\
 True))) ((K2 ff B)
 /\((K2 ff B)
 /\
 True))) ((K2 ff B)
 /\((K2 ff B)
 /\
 True))) ((K2 ff B)
 /\((K2 ff B)
 /\
 True)))) ((K2 ff ci)
 /\((K2 ff ci)
 /\
 True))) ((K2 ff I)
 /\((K2 ff I)
 /\
 True))) ((K2 ff I)
 /\((K2 ff I)
 /\
 True)))) ((K2 ff b4)
 /\((K2 ff b4)
 /\
 True))) (λdz d0=>∀_:Env,
 K dz d0))
def P34:dI:=λi=>match i with
 | 6=>(.op 0 [] (.op 1 [] (.op 2 [] (.alt 3 [] (.of [(4,[]),(5,[]),(6,[]),(7,[]),(8,[0]),(9,[]),(10,[]),(11,[])]) (.alt 8 [0] (.of [(3,[]),(4,[]),(5,[]),(6,[]),(7,[]),(9,[]),(10,[]),(11,[])]) .stop)))))
 | 9=>(.op 0 [] (.op 1 [] (.op 2 [] (.op 3 [] (.op 4 [] (.op 5 [] (.op 6 [] (.op 7 [6] (.op 8 [] (.op 9 [] (.op 10 [] (.op 11 [] (.op 12 [] (.op 13 [] (.op 14 [] (.op 15 [] (.op 16 [] (.op 17 [] (.op 18 [] (.op 19 [] (.op 20 [] (.op 21 [] (.op 22 [] (.op 23 [] (.op 24 [] (.op 25 [24] (.op 26 [] (.op 27 [] (.op 28 [] (.op 29 [] (.op 30 [] (.op 31 [] (.op 32 [] (.op 33 [] (.op 34 [] (.op 35 [] (.op 36 [] (.op 37 [] (.op 38 [] (.op 39 [] (.op 40 [] (.op 41 [] (.op 42 [] (.op 43 [] (.op 44 [] (.op 45 [] (.op 46 [] (.op 48 [] (.op 49 [] (.op 50 [] (.alt 47 [48,49,50] (.of [(51,[]),(52,[]),(53,[]),(54,[]),(55,[]),(57,[]),(56,[]),(58,[]),(59,[]),(60,[]),(61,[]),(62,[]),(63,[]),(64,[]),(65,[]),(66,[]),(67,[]),(68,[]),(69,[]),(70,[]),(71,[])]) (.alt 51 [] (.of [(47,[48,49,50]),(52,[]),(53,[]),(54,[]),(55,[]),(57,[]),(56,[]),(58,[]),(59,[]),(60,[]),(61,[]),(62,[]),(63,[]),(64,[]),(65,[]),(66,[]),(67,[]),(68,[]),(69,[]),(70,[]),(71,[])]) .stop))))))))))))))))))))))))))))))))))))))))))))))))))))
 | _=>.nil
theorem alN(h:S34 w K):CR 34 [] w K:=
 qW 150 P34 1 [.tmp 0] Tryz.func34 h
theorem asH:PL 34:=dJ Tryz.func34
end Go.Proofs.YtpdlpabnlkofmaaGreatDoor
namespace Go.Proofs.YtpdlpabnlkofmaaGreatDoor
open Go.Fw
def IE(u:Int)(B:Int):pr hH (mL 63 [(0,hZ u),(1,hZ B)].toArray)=some (.agg [hZ u,hZ B,hZ 0,.slice none 0 0].toArray):=by kernel_rfl
def TD:ByteArray:=⟨#[108,105,110,101,32,97,59,32,116,104,114,101,97,100,32,116,32,123,32,115,116,111,114,101,32,97,32,61,32,49,59,32,99,104,101,99,107,32,48,59,32,125,32,116,104,114,101,97,100,32,117,32,123,32,109,102,101,110,99,101,59,32,125]⟩
def qV:cB:=((vN TD).getD (NB,0,0)).1
def Re:vN TD=some (qV,0,0):=by decide +kernel
def Vu:∀l e a,wk TD=some (l,e,a)->jl l:=afl (by decide +kernel)
theorem abp:zT qV=qV:=by decide +kernel
def yD:PZ qV:=by rw[<- abp];exact Sr _
def azK:gg qV 2 0 ([(⟨1,1,0,[]⟩:aS),(⟨1,0,0,[]⟩:aS),(⟨2,0,0,[]⟩:aS),(⟨1,0,0,[]⟩:aS)]:List aS)=(([(⟨1,0,0,[]⟩:aS),(⟨1,0,0,[]⟩:aS)]:List aS),(⟨3,1,0,[0]⟩:aS),0)/\ea qV 2 0 ([(⟨2,0,0,[]⟩:aS),(⟨1,0,0,[]⟩:aS),(⟨2,0,0,[]⟩:aS),(⟨1,1,0,[]⟩:aS),(⟨1,1,0,[]⟩:aS)]:List aS)=(([(⟨1,0,0,[]⟩:aS),(⟨2,0,0,[]⟩:aS),(⟨1,1,0,[]⟩:aS)]:List aS),(⟨0,0,0,[1]⟩:aS),0)/\gg qV 2 0 ([(⟨1,1,0,[]⟩:aS)]:List aS)=([],zE,13)/\gg qV 2 0 ([(⟨2,0,0,[]⟩:aS),(⟨1,0,0,[]⟩:aS),(⟨1,0,0,[]⟩:aS)]:List aS)=([],zE,13)/\ea qV 2 9 []=([],zE,1):=by decide +kernel
def afm(R:List aS×aS×Int)(K:hM)(p:cB)(pv:bP)(room c:Int)(lv:Value)(l:List aS)(w:World)(B:∀w',Ext w w'->K w')(G:IB K pv p)(M:PZ p)(I:GS K lv l)(E:l.length<=1000)(u:∀q∈l,q.cut.length<=1000)(J:gg p room c l=R) :
  Calls hH 35 [j0 pv,hZ room,hZ c,lv].toArray w (ub λv w'=>∃(ov:Value) (ev:aI),v=.tuple #[ov,j0 ev,hZ R.2.2]/\kV (eF λw=>DL w ov R.1/\ml w ev R.2.1) w w'):=J▸C35 K p pv room c lv l w B G M I E u
def asI(R:List aS×aS×Int)(K:hM)(p:cB)(pv:bP)(room c:Int)(lv:Value)(l:List aS)(w:World)(B:∀w',Ext w w'->K w')(G:IB K pv p)(M:PZ p)(I:GS K lv l)(E:l.length<=1000)(u:∀q∈l,q.cut.length<=1000)(J:ea p room c l=R) :
  Calls hH 27 [j0 pv,hZ room,hZ c,lv].toArray w (ub λv w'=>∃(ov:Value) (ev:aI),v=.tuple #[ov,j0 ev,hZ R.2.2]/\kV (eF λw=>DL w ov R.1/\ml w ev R.2.1) w w'):=J▸C27 K p pv room c lv l w B G M I E u
def C34(w:World):CR 34 [] w (λv w'=>v=.bool true/\Ext w w'):=by
 have u:=St.start w;refine alN _ _ ?_;unfold S34;obtain⟨r1,r2,r3,r4,r5⟩:=azK;refine dM aut (C65 TD (qV,0,0) _ dD Re Vu) ?_;rintro _ _ ⟨pv,rfl,B⟩;have u:=u.made B;refine aN rfl (aN rfl (aN rfl (aM u vr λb1 _ u=>aJ (x:=pv) u eg rfl rfl λ_ u=>pop (TC 1) (pop (Ct 1 1) (pop (TC 2) (aM u B2 λb4 _ u=>aM u B2 λb5 _ u=>aM u B2 λb6 _ u=>aJ (x:=(⟨1,0,0,bW⟩:aI)) u.p2 j8 rfl rfl λ_ u=>aJ (x:=(⟨1,1,0,bW⟩:aI)) u.p2 j8 rfl rfl λ_ u=>?_))))));refine aJ (x:=(⟨2,0,0,bW⟩:aI)) u.p2 j8 rfl rfl (λM u=>?_)
 have u:=u.p4;obtain⟨J,u,hX⟩:=u.MX;have O:IB (ph J M) pv qV:=IB.of hX;refine aD (x:=(⟨1,1,0,bW⟩:aI)) j8 u.p2.At (aD (x:=(⟨1,0,0,bW⟩:aI)) j8 u.p3.At (aD (x:=(⟨2,0,0,bW⟩:aI)) j8 u.p1.At (aD (x:=(⟨1,0,0,bW⟩:aI)) j8 u.p3.At (bD ([(⟨1,1,0,bW⟩:aI),(⟨1,0,0,bW⟩:aI),(⟨2,0,0,bW⟩:aI),(⟨1,0,0,bW⟩:aI)]:List aI) u fO rfl rfl (dL rfl) λE _ u=>aD (x:=pv) eg u.p5.At (dM abn (afm _ (λw'=>ph J M w'/\dA (λ_=>True) w' E ([(⟨1,1,0,bW⟩:aI),(⟨1,0,0,bW⟩:aI),(⟨2,0,0,bW⟩:aI),(⟨1,0,0,bW⟩:aI)]:List aI)) qV pv 2 0 E ([(⟨1,1,0,[]⟩:aS),(⟨1,0,0,[]⟩:aS),(⟨2,0,0,[]⟩:aS),(⟨1,0,0,[]⟩:aS)]:List aS) _ (λ_ e=>⟨(u.ext e).p1.eF,(u.ext e).dS⟩) (O.mono λ_ h=>h.1) yD ⟨_,λ_ h=>⟨h.2,(fX (rQ _ 1 1 0) (fX (rQ _ 1 0 0) (fX (rQ _ 2 0 0) (fX (rQ _ 1 0 0) gy.nil))))⟩⟩ dD dD r1) ?_)))))
 rintro _ _ ⟨om,G,rfl,B⟩;have u:=u.made B;refine aN rfl (aN rfl (aN rfl (aM u gd λb9 _ u=>aJ (x:=G) u eO rfl rfl λ_ u=>aD (x:=pv) eg u.p7.At (aD (x:=(⟨2,0,0,bW⟩:aI)) j8 u.p4.At (aD (x:=(⟨1,0,0,bW⟩:aI)) j8 u.p6.At (aD (x:=(⟨2,0,0,bW⟩:aI)) j8 u.p4.At (aD (x:=(⟨1,1,0,bW⟩:aI)) j8 u.p5.At (aD (x:=(⟨1,1,0,bW⟩:aI)) j8 u.p5.At (bD ([(⟨2,0,0,bW⟩:aI),(⟨1,0,0,bW⟩:aI),(⟨2,0,0,bW⟩:aI),(⟨1,1,0,bW⟩:aI),(⟨1,1,0,bW⟩:aI)]:List aI) u fO rfl rfl (dL rfl) λx50 _ u=>dM Vs (asI _ (λw'=>ph J M w'/\dA (λ_=>True) w' x50 ([(⟨2,0,0,bW⟩:aI),(⟨1,0,0,bW⟩:aI),(⟨2,0,0,bW⟩:aI),(⟨1,1,0,bW⟩:aI),(⟨1,1,0,bW⟩:aI)]:List aI)) qV pv 2 0 x50 ([(⟨2,0,0,[]⟩:aS),(⟨1,0,0,[]⟩:aS),(⟨2,0,0,[]⟩:aS),(⟨1,1,0,[]⟩:aS),(⟨1,1,0,[]⟩:aS)]:List aS) _ (λ_ e=>⟨(u.ext e).p4.eF,(u.ext e).dS⟩) (O.mono λ_ h=>h.1) yD ⟨_,λ_ h=>⟨h.2,(fX (rQ _ 2 0 0) (fX (rQ _ 1 0 0) (fX (rQ _ 2 0 0) (fX (rQ _ 1 1 0) (fX (rQ _ 1 1 0) gy.nil)))))⟩⟩ dD dD r2) ?_)))))))))
 rintro _ _ ⟨od,I,rfl,B⟩;have u:=u.made B;refine aN rfl (aN rfl (aN rfl (aM u gd λTB _ u=>aJ (x:=I) u eO rfl rfl λ_ u=>?_)));have u:=u.p2.drop;refine⟨λjv w'=>jv=hZ 13/\St w aZ [bY TB (kp I),eF (λw=>DL w od ([(⟨1,0,0,[]⟩:aS),(⟨2,0,0,[]⟩:aS),(⟨1,1,0,[]⟩:aS)]:List aS)/\ml w I (⟨0,0,0,[1]⟩:aS)),bY b9 (kp G),eF (λw=>DL w om ([(⟨1,0,0,[]⟩:aS),(⟨1,0,0,[]⟩:aS)]:List aS)/\ml w G (⟨3,1,0,[0]⟩:aS)),bH E ([(⟨1,1,0,bW⟩:aI),(⟨1,0,0,bW⟩:aI),(⟨2,0,0,bW⟩:aI),(⟨1,0,0,bW⟩:aI)]:List aI),eF (ph J M),bY b6 (kp (⟨2,0,0,bW⟩:aI)),bY b5 (kp (⟨1,1,0,bW⟩:aI)),bY b4 (kp (⟨1,0,0,bW⟩:aI)),bY b1 (kp pv)] w',?_,?_⟩
 .have u:=u.drew;refine aD (x:=pv) eg u.p9.At (jT fO u.p4.dS dD dD λV W=>⟨?_,?_,trivial⟩)
  .refine dM abn (afm _ (λw'=>ph J M w'/\dA (λ_=>True) w' E ([(⟨1,1,0,bW⟩:aI),(⟨1,0,0,bW⟩:aI),(⟨2,0,0,bW⟩:aI),(⟨1,0,0,bW⟩:aI)]:List aI)) qV pv 2 0 V ([(⟨1,1,0,[]⟩:aS)]:List aS) _ (λ_ e=>⟨(u.ext e).p5.eF,((u.ext e).p4).dS⟩) (O.mono λ_ h=>h.1) yD ⟨_,λw h=>⟨W w h.2,(fX (rQ _ 1 1 0) gy.nil)⟩⟩ dD dD r3) ?_;rintro _ _ ⟨o3,e3,rfl,B⟩;have u:=u.made B;refine aN rfl (aN rfl (aN rfl (aM u gd λb15 _ u=>?_)));refine⟨eA eg u.p11.At,?_⟩;exact aJ (x:=e3) u eO rfl rfl (λ_ u=>have u:=u.drop.drop.p9.p9.p9.p9.p9.p9.p9.p9.p9.p9;⟨rfl,u⟩)
  refine aM u gd (λb15 _ u=>?_);refine⟨eA eg u.p10.At,?_⟩;refine dM abn (afm _ (λw'=>ph J M w'/\dA (λ_=>True) w' E ([(⟨1,1,0,bW⟩:aI),(⟨1,0,0,bW⟩:aI),(⟨2,0,0,bW⟩:aI),(⟨1,0,0,bW⟩:aI)]:List aI)) qV pv 2 0 V ([(⟨1,1,0,[]⟩:aS)]:List aS) _ (λ_ e=>⟨(u.ext e).p6.eF,((u.ext e).p5).dS⟩) (O.mono λ_ h=>h.1) yD ⟨_,λw h=>⟨W w h.2,(fX (rQ _ 1 1 0) gy.nil)⟩⟩ dD dD r3) ?_;rintro _ _ ⟨o3,e3,rfl,B⟩;have u:=u.made B;exact aN rfl (aN rfl (aN rfl (aJ (x:=e3) u.p1 eO rfl rfl λ_ u=>have u:=u.drop.drop.p9.p9.p9.p9.p9.p9.p9.p9.p9.p9;⟨rfl,u⟩)))
 rintro _ _ ⟨rfl,u⟩ _;refine aD (x:=pv) eg u.p9.At (aD (x:=(⟨2,0,0,bW⟩:aI)) j8 u.p6.At (aD (x:=(⟨1,0,0,bW⟩:aI)) j8 u.p8.At (aD (x:=(⟨1,0,0,bW⟩:aI)) j8 u.p8.At (bD ([(⟨2,0,0,bW⟩:aI),(⟨1,0,0,bW⟩:aI),(⟨1,0,0,bW⟩:aI)]:List aI) u fO rfl rfl (dL rfl) λY _ u=>dM abn (afm _ (λw'=>ph J M w'/\dA (λ_=>True) w' Y ([(⟨2,0,0,bW⟩:aI),(⟨1,0,0,bW⟩:aI),(⟨1,0,0,bW⟩:aI)]:List aI)) qV pv 2 0 Y ([(⟨2,0,0,[]⟩:aS),(⟨1,0,0,[]⟩:aS),(⟨1,0,0,[]⟩:aS)]:List aS) _ (λ_ e=>⟨(u.ext e).p6.eF,(u.ext e).dS⟩) (O.mono λ_ h=>h.1) yD ⟨_,λ_ h=>⟨h.2,(fX (rQ _ 2 0 0) (fX (rQ _ 1 0 0) (fX (rQ _ 1 0 0) gy.nil)))⟩⟩ dD dD r4) ?_))))
 rintro _ _ ⟨o4,e4,rfl,B⟩;have u:=u.made B;refine aN rfl (aN rfl (aN rfl (aM u gd λb18 _ u=>aJ (x:=e4) u eO rfl rfl λ_ u=>have u:=u.drop.p1.drop.drop;aD (x:=pv) eg u.p9.At (dM Vs (asI _ (ph J M) qV pv 2 9 (.slice none 0 0) [] _ (λ_ e=>(u.ext e).p5.eF) O yD (GS.nil _) dD dD r5) ?_))));rintro _ _ ⟨o5,e5,rfl,B⟩;have u:=u.made B;refine aN rfl (aN rfl (aN rfl (aM u gd λb21 _ u=>aJ (x:=e5) u eO rfl rfl λ_ u=>?_)));have u:=u.drop.drop;refine⟨λjv w'=>jv=.bool true/\Ext w w',?_,?_⟩;rotate_left
 .rintro _ _ h _;exact h
 have u:=u.drew;refine aD (x:=(⟨1,0,0,bW⟩:aI)) j8 u.p8.At (aD (x:=(⟨1,0,0,bW⟩:aI)) j8 u.p8.At (bD ([(⟨1,0,0,bW⟩:aI),(⟨1,0,0,bW⟩:aI)]:List aI) u fO rfl rfl (dL rfl) λq1 _ u=>aV OM u (C19 om q1 ([(⟨1,0,0,[]⟩:aS),(⟨1,0,0,[]⟩:aS)]:List aS) ([(⟨1,0,0,[]⟩:aS),(⟨1,0,0,[]⟩:aS)]:List aS) _ u.p4.eF.1 (DL.of u.dS (fX (rQ _ 1 0 0) (fX (rQ _ 1 0 0) gy.nil))) dD dD) λ_ U u=>ke dD (have u:=u.drop;aD (x:=G) eO u.p2.At (bD ([0]:List Int) u cS rfl rfl (dL rfl) λz1 _ u=>?_))));refine⟨eA eO u.p3.At,?_⟩
 obtain⟨s1,rfl⟩:=u.fK;refine pop (Of 3 1 _ _ _) ?_;have T0:ml _ (⟨3,1,0,s1⟩:aI) (⟨3,1,0,[0]⟩:aS):=e0 _ _ _ _ u.dS;refine aV alG u (C29 (⟨3,1,0,[0]⟩:aS) G (⟨3,1,0,[0]⟩:aS) (⟨3,1,0,s1⟩:aI) _ u.p4.eF.2 T0 dD) (λ_ U u=>ke dD (have u:=u.drop;aH (aC (λ_=>?_) λh=>absurd rfl h)));refine aD (x:=(⟨1,0,0,bW⟩:aI)) j8 u.p8.At (aD (x:=(⟨2,0,0,bW⟩:aI)) j8 u.p6.At (aD (x:=(⟨1,1,0,bW⟩:aI)) j8 u.p7.At (bD ([(⟨1,0,0,bW⟩:aI),(⟨2,0,0,bW⟩:aI),(⟨1,1,0,bW⟩:aI)]:List aI) u fO rfl rfl (dL rfl) λq2 _ u=>aV OM u (C19 od q2 ([(⟨1,0,0,[]⟩:aS),(⟨2,0,0,[]⟩:aS),(⟨1,1,0,[]⟩:aS)]:List aS) ([(⟨1,0,0,[]⟩:aS),(⟨2,0,0,[]⟩:aS),(⟨1,1,0,[]⟩:aS)]:List aS) _ u.p2.eF.1 (DL.of u.dS (fX (rQ _ 1 0 0) (fX (rQ _ 2 0 0) (fX (rQ _ 1 1 0) gy.nil)))) dD dD) λ_ U u=>ke dD (have u:=u.drop;aD (x:=I) eO u.At (bD ([1]:List Int) u cS rfl rfl (dL rfl) λz2 _ u=>?_)))))
 refine⟨eA eO u.p1.At,?_⟩;obtain⟨s2,rfl⟩:=u.fK;refine pop (afk _ _ _) ?_;have hz2:ml _ (⟨0,0,0,s2⟩:aI) (⟨0,0,0,[1]⟩:aS):=e0 _ _ _ _ u.dS;refine aV alG u (C29 (⟨0,0,0,[1]⟩:aS) I (⟨0,0,0,[1]⟩:aS) (⟨0,0,0,s2⟩:aI) _ u.p2.eF.2 hz2 dD) (λ_ U u=>ke dD (have u:=u.drop;aH (aC (λ_=>aH (aC (λ_=>aH (aC (λ_=>aH (aC (λ_=>aD (x:=(⟨1,1,0,bW⟩:aI)) j8 u.p7.At (aD (x:=(⟨2,0,0,bW⟩:aI)) j8 u.p6.At (aD (x:=(⟨1,0,0,bW⟩:aI)) j8 u.p8.At ⟨?_,?_,trivial⟩))) λh=>absurd rfl h)) λh=>absurd rfl h)) λh=>absurd rfl h)) λh=>absurd rfl h)))
 .refine dU Vr u (C30 (λw'=>dA (λ_=>True) w' E ([(⟨1,1,0,bW⟩:aI),(⟨1,0,0,bW⟩:aI),(⟨2,0,0,bW⟩:aI),(⟨1,0,0,bW⟩:aI)]:List aI)) E ([(⟨1,1,0,bW⟩:aI),(⟨1,0,0,bW⟩:aI),(⟨2,0,0,bW⟩:aI),(⟨1,0,0,bW⟩:aI)]:List aI) 1 _ (λ_ e=>((u.ext e).p4).dS) (λ_ h=>h) dD) (λZ _ B u=>?_);refine⟨eA j8 u.p8.At,?_⟩;refine⟨eA j8 u.p7.At,?_⟩;refine⟨eA j8 u.p9.At,?_⟩;refine bD ([(⟨1,1,0,bW⟩:aI),(⟨2,0,0,bW⟩:aI),(⟨1,0,0,bW⟩:aI)]:List aI) u fO rfl rfl (dL rfl) (λq3 _ u=>?_);have BW:dA (λ_=>True) _ Z ([(⟨1,1,0,bW⟩:aI),(⟨2,0,0,bW⟩:aI),(⟨1,0,0,bW⟩:aI)]:List aI):=u.p1.eF u.p6.dS
  refine aV OM u (C19 Z q3 ([(⟨1,1,0,[]⟩:aS),(⟨2,0,0,[]⟩:aS),(⟨1,0,0,[]⟩:aS)]:List aS) ([(⟨1,1,0,[]⟩:aS),(⟨2,0,0,[]⟩:aS),(⟨1,0,0,[]⟩:aS)]:List aS) _ (DL.of BW (fX (rQ _ 1 1 0) (fX (rQ _ 2 0 0) (fX (rQ _ 1 0 0) gy.nil)))) (DL.of u.dS (fX (rQ _ 1 1 0) (fX (rQ _ 2 0 0) (fX (rQ _ 1 0 0) gy.nil)))) dD dD) (λ_ U u=>ke dD (have u:=u.drop;dU Vr u (C30 (λw'=>dA (λ_=>True) w' E ([(⟨1,1,0,bW⟩:aI),(⟨1,0,0,bW⟩:aI),(⟨2,0,0,bW⟩:aI),(⟨1,0,0,bW⟩:aI)]:List aI)) E ([(⟨1,1,0,bW⟩:aI),(⟨1,0,0,bW⟩:aI),(⟨2,0,0,bW⟩:aI),(⟨1,0,0,bW⟩:aI)]:List aI) 4 _ (λ_ e=>((u.ext e).p5).dS) (λ_ h=>h) dD) λv4 _ B u=>?_))
  have Vo:dA (λ_=>True) _ v4 ([(⟨1,1,0,bW⟩:aI),(⟨1,0,0,bW⟩:aI),(⟨2,0,0,bW⟩:aI),(⟨1,0,0,bW⟩:aI)]:List aI):=u.eF u.p6.dS;exact aV OM u (C19 v4 E ([(⟨1,1,0,[]⟩:aS),(⟨1,0,0,[]⟩:aS),(⟨2,0,0,[]⟩:aS),(⟨1,0,0,[]⟩:aS)]:List aS) ([(⟨1,1,0,[]⟩:aS),(⟨1,0,0,[]⟩:aS),(⟨2,0,0,[]⟩:aS),(⟨1,0,0,[]⟩:aS)]:List aS) _ (DL.of Vo (fX (rQ _ 1 1 0) (fX (rQ _ 1 0 0) (fX (rQ _ 2 0 0) (fX (rQ _ 1 0 0) gy.nil))))) (DL.of u.p6.dS (fX (rQ _ 1 1 0) (fX (rQ _ 1 0 0) (fX (rQ _ 2 0 0) (fX (rQ _ 1 0 0) gy.nil))))) dD dD) (λ_ _ u=>ke dD (aD (x:=G) eO u.p4.At (pop (IE 3 1) (aV abk u (C32 (⟨3,1,0,[0]⟩:aS) G (⟨3,1,0,[]⟩:aS) (⟨3,1,0,bW⟩:aI) _ u.p5.eF.2 (rQ _ 3 1 0)) λ_ _ u=>ke dD (aD (x:=G) eO u.p4.At (aD (x:=I) eO u.p2.At (aV abk u (C32 (⟨3,1,0,[0]⟩:aS) G (⟨0,0,0,[1]⟩:aS) I _ u.p5.eF.2 u.p3.eF.2) λ_ _ u=>bR ⟨rfl,u.aG⟩)))))))
 refine bD ([(⟨1,1,0,bW⟩:aI),(⟨2,0,0,bW⟩:aI),(⟨1,0,0,bW⟩:aI)]:List aI) u fO rfl rfl (dL rfl) (λq3 _ u=>dU Vr u (C30 (λw'=>dA (λ_=>True) w' E ([(⟨1,1,0,bW⟩:aI),(⟨1,0,0,bW⟩:aI),(⟨2,0,0,bW⟩:aI),(⟨1,0,0,bW⟩:aI)]:List aI)) E ([(⟨1,1,0,bW⟩:aI),(⟨1,0,0,bW⟩:aI),(⟨2,0,0,bW⟩:aI),(⟨1,0,0,bW⟩:aI)]:List aI) 1 _ (λ_ e=>((u.ext e).p5).dS) (λ_ h=>h) dD) λZ _ B u=>?_);refine⟨eA j8 u.p9.At,?_⟩;refine⟨eA j8 u.p8.At,?_⟩;refine⟨eA j8 u.p10.At,?_⟩;have BW:dA (λ_=>True) _ Z ([(⟨1,1,0,bW⟩:aI),(⟨2,0,0,bW⟩:aI),(⟨1,0,0,bW⟩:aI)]:List aI):=u.eF u.p6.dS
 refine aV OM u (C19 Z q3 ([(⟨1,1,0,[]⟩:aS),(⟨2,0,0,[]⟩:aS),(⟨1,0,0,[]⟩:aS)]:List aS) ([(⟨1,1,0,[]⟩:aS),(⟨2,0,0,[]⟩:aS),(⟨1,0,0,[]⟩:aS)]:List aS) _ (DL.of BW (fX (rQ _ 1 1 0) (fX (rQ _ 2 0 0) (fX (rQ _ 1 0 0) gy.nil)))) (DL.of u.p1.dS (fX (rQ _ 1 1 0) (fX (rQ _ 2 0 0) (fX (rQ _ 1 0 0) gy.nil)))) dD dD) (λ_ U u=>ke dD (have u:=u.p1.drop;dU Vr u (C30 (λw'=>dA (λ_=>True) w' E ([(⟨1,1,0,bW⟩:aI),(⟨1,0,0,bW⟩:aI),(⟨2,0,0,bW⟩:aI),(⟨1,0,0,bW⟩:aI)]:List aI)) E ([(⟨1,1,0,bW⟩:aI),(⟨1,0,0,bW⟩:aI),(⟨2,0,0,bW⟩:aI),(⟨1,0,0,bW⟩:aI)]:List aI) 4 _ (λ_ e=>((u.ext e).p5).dS) (λ_ h=>h) dD) λv4 _ B u=>?_))
 have Vo:dA (λ_=>True) _ v4 ([(⟨1,1,0,bW⟩:aI),(⟨1,0,0,bW⟩:aI),(⟨2,0,0,bW⟩:aI),(⟨1,0,0,bW⟩:aI)]:List aI):=u.eF u.p6.dS;exact aV OM u (C19 v4 E ([(⟨1,1,0,[]⟩:aS),(⟨1,0,0,[]⟩:aS),(⟨2,0,0,[]⟩:aS),(⟨1,0,0,[]⟩:aS)]:List aS) ([(⟨1,1,0,[]⟩:aS),(⟨1,0,0,[]⟩:aS),(⟨2,0,0,[]⟩:aS),(⟨1,0,0,[]⟩:aS)]:List aS) _ (DL.of Vo (fX (rQ _ 1 1 0) (fX (rQ _ 1 0 0) (fX (rQ _ 2 0 0) (fX (rQ _ 1 0 0) gy.nil))))) (DL.of u.p6.dS (fX (rQ _ 1 1 0) (fX (rQ _ 1 0 0) (fX (rQ _ 2 0 0) (fX (rQ _ 1 0 0) gy.nil))))) dD dD) (λ_ _ u=>ke dD (aD (x:=G) eO u.p4.At (pop (IE 3 1) (aV abk u (C32 (⟨3,1,0,[0]⟩:aS) G (⟨3,1,0,[]⟩:aS) (⟨3,1,0,bW⟩:aI) _ u.p5.eF.2 (rQ _ 3 1 0)) λ_ _ u=>ke dD (aD (x:=G) eO u.p4.At (aD (x:=I) eO u.p2.At (aV abk u (C32 (⟨3,1,0,[0]⟩:aS) G (⟨0,0,0,[1]⟩:aS) I _ u.p5.eF.2 u.p3.eF.2) λ_ _ u=>bR ⟨rfl,u.aG⟩)))))))
variable (w:World) (K:Value->hM)
def P9:dI:=λi=>match i with
 | 6=>(.of [(0,[]),(1,[]),(2,[]),(3,[]),(4,[]),(5,[]),(6,[]),(7,[]),(8,[]),(9,[]),(10,[]),(11,[]),(12,[]),(13,[]),(14,[]),(15,[]),(16,[]),(17,[]),(18,[]),(19,[]),(20,[]),(21,[]),(22,[]),(23,[]),(25,[]),(26,[]),(27,[]),(28,[]),(29,[]),(24,[25,28]),(30,[]),(31,[]),(32,[]),(33,[]),(34,[]),(35,[]),(36,[])])
 | _=>.nil
end Go.Proofs.YtpdlpabnlkofmaaGreatDoor
namespace Go.Proofs.YtpdlpabnlkofmaaGreatDoor
open Go.Fw
theorem abq{p:cB}{c:Int}(hc:GQ p):∀(l:List aS) (m:gU) (o:List cI) (a:Nat),tg p a m->tg p (a+l.length) (vS c m o l).1
 | [],m,o,a,h=>h
 | q::r,m,o,a,h=>by
  rw[List.length_cons]
  unfold vS
  split
  .exact h.mono bO
  .split
   .exact(h.step hc).mono bO
   .exact(abq hc r _ _ _ (h.step hc)).mono bO
def abr{p:cB}{room c:Int}(h:eP p room c=0):fk p=0/\(1<=room/\room<=16)/\0<=c/\c<=8:=by
 unfold eP at h
 omega
def alO{p:cB}{room c:Int}(u:PZ p)(h:eP p room c=0)(l:List aS):tg p l.length (vS c (iw p room) [] l).1:=by
 obtain⟨h1,h2,_⟩:=abr h
 have:=abq (c:=c) (vR h1) l _ [] 0 (tg.new u (vR h1) h2)
 grind
def abt{p:cB}{room c:Int}(B:PZ p)(l:List aS):(BJ p room c l).1.cut.length<=1073741824:=by
 unfold BJ
 split
 .exact l6 _
 rename_i h
 split
 .exact l6 _
 have u:=(alO B (uh.1 h) l).go.ok
 show(List.take _ _).length<=_
 rw[l2]
 have:=u.mem.ll;have:=u.mem.fl
 omega
structure Two where
 a:Int
 b:Int
instance:Flat Two where
 agg:=true
 sz:=2
 enc e:=[hZ e.a,hZ e.b]
 val e:=.agg [hZ e.a,hZ e.b].toArray
 pos:=dD
 len _:=rfl
 one a v h:=by grind[wA]
 nD _ _:=rfl
 nX h:=by cases h
def abu:ahZ hH 69 2 3:=⟨by kernel_rfl,by kernel_rfl⟩
variable (w:World) (K:Value->hM)
def P4:dI:=λi=>match i with
 | 6=>(.of [(0,[]),(1,[]),(2,[]),(3,[]),(4,[]),(5,[]),(6,[]),(7,[]),(8,[]),(9,[]),(10,[]),(11,[]),(12,[]),(13,[]),(14,[]),(15,[]),(16,[]),(18,[]),(19,[]),(20,[]),(17,[20]),(21,[]),(22,[]),(23,[]),(24,[]),(25,[]),(26,[]),(27,[]),(28,[]),(30,[]),(31,[]),(32,[]),(33,[]),(29,[30,32]),(34,[]),(35,[]),(36,[]),(37,[]),(38,[]),(39,[]),(40,[])])
 | _=>.nil
end Go.Proofs.YtpdlpabnlkofmaaGreatDoor
namespace Go.Proofs.YtpdlpabnlkofmaaGreatDoor
open Go.Fw
theorem C4{p:cB}{room c:Int}{l:List aS}:ea p room c (ea p room c l).1=ea p room c l:=by
 by_cases h:eP p room c=0
 .rw[vV h,vV h]
  show((fu c (iw p room) (fu c (iw p room) l).2).2,BI (fu c (iw p room) (fu c (iw p room) l).2).1,(0:Int))=_
  rw[tZ]
 rw[qq h,qq h]
def Vv{p:cB}{room c:Int}(u:PZ p)(l:List aS):(ea p room c l).2.1.cut.length<=1073741824:=by
 by_cases h:eP p room c=0
 .rw[vV h]
  show(BI _).cut.length<=_
  rw[<- (Oa h l).1]
  exact abt u _
 rw[qq h];exact l6 _
section
variable {D:List aS->List aS×aS}(hD:∀s,(D s).1.length<=s.length) {Q:List aS->aS->Prop}
include hD in
theorem CF(h:∀s e k,k<s.length->jm (D (s.eraseIdx k)).2 e=true->Q s e->Q (D (s.eraseIdx k)).1 (D (s.eraseIdx k)).2):∀(n:Nat) (s:List aS) (e:aS) (k:Nat) (ch:Bool),s.length<n+k->Q s e->Q (km D s e k ch).1 (km D s e k ch).2.1
 | 0,s,e,k,ch,B,u=>by rw[oJ bO];exact u
 | n+1,s,e,k,ch,B,u=>by
  by_cases h1:k<s.length
  .have h3:=hD (s.eraseIdx k)
   have h4:=oI h1
   by_cases h2:jm (D (s.eraseIdx k)).2 e=true
   .rw[vn hD h1 h2]
    exact CF h n _ _ k true bO (h s e k h1 h2 u)
   .rw[xW hD h1 h2]
    exact CF h n s e (k+1) ch bO u
  .rw[oJ h1];exact u
include hD in
theorem Ae:∀(n:Nat) (s:List aS) (e:aS) (k:Nat) (ch:Bool),s.length<n+k->(km D s e k ch).2.2=false->km D s e k ch=(s,e,false)/\ch=false/\∀j,k<=j->j<s.length->jm (D (s.eraseIdx j)).2 e=false
 | 0,s,e,k,ch,J,h=>by
  rw[oJ bO]at h |-
  exact⟨by rw[show ch=false from h],h,λj h1 h2=>bO⟩
 | n+1,s,e,k,ch,J,h=>by
  by_cases h1:k<s.length
  .have h3:=hD (s.eraseIdx k)
   have h4:=oI h1
   by_cases h2:jm (D (s.eraseIdx k)).2 e=true
   .rw[vn hD h1 h2]at h
    have:=(Ae n _ _ k true bO h).2.1
    cases this
   .rw[xW hD h1 h2]at h |-
    obtain⟨G,E,M⟩:=Ae n s e (k+1) ch bO h
    refine⟨G,E,λj B I=>?_⟩
    by_cases u:j=k
    .rw[u];simpa using h2
    .exact M j bO I
  .rw[oJ h1]at h |-
   exact⟨by rw[show ch=false from h],h,λj h1 h2=>bO⟩
include hD in
theorem Gn(h:∀s e k,k<s.length->jm (D (s.eraseIdx k)).2 e=true->Q s e->Q (D (s.eraseIdx k)).1 (D (s.eraseIdx k)).2):∀(n:Nat) (s:List aS) (e:aS),s.length<n->Q s e->
  Q (nx D s e).1 (nx D s e).2/\∀j,j<(nx D s e).1.length->jm (D ((nx D s e).1.eraseIdx j)).2 (nx D s e).2=false
 | 0,s,e,B,_=>absurd B (Mh _)
 | n+1,s,e,B,u=>by
  have G:=CF hD h (s.length+1) s e 0 false bO u
  have I:=qg hD (s.length+1) s e 0 false bO
  cases hc:(km D s e 0 false).2.2 with
  | true=>
   rw[CD hD hc]
   exact Gn h n _ _ (by have:=I.2 rfl hc;omega) G
  | false=>
   obtain⟨E,_,M⟩:=Ae hD (s.length+1) s e 0 false bO hc
   rw[Ad hc,E]
   exact⟨u,λj J=>M j (l6 _) J⟩
end
structure LsQ(p:cB)(room c:Int)(l:List aS)(s:List aS)(e:aS):Prop where
 d:ea p room c s=(s,e,0)
 sub:∀q∈s,q∈l
 len:s.length<=l.length
 al:jm e (ea p room c l).2.1=true
def LsQ.step{p:cB}{room c:Int}{l s:List aS}{e:aS}(G:eP p room c=0){k:Nat}(E:k<s.length)(u:jm (fD p room c (s.eraseIdx k)).2 e=true)(h:LsQ p room c l s e):LsQ p room c l (fD p room c (s.eraseIdx k)).1 (fD p room c (s.eraseIdx k)).2:=by
 refine⟨?_,λq B=>h.sub q (H5 ((qf (l:=s.eraseIdx k)).subset B)),?_,?_⟩
 .show ea p room c (ea p room c (s.eraseIdx k)).1=((ea p room c (s.eraseIdx k)).1,(ea p room c (s.eraseIdx k)).2.1,0)
  rw[C4,vV G]
 .have h1:=jn p room c (s.eraseIdx k)
  have h2:=oI E
  have h3:=h.len
  omega
 have h1:=gR u
 have h2:=gR h.al
 exact ew ⟨h1.1.trans h2.1,h1.2.trans h2.2⟩
def Rf{p:cB}{room c:Int}{l:List aS}(h:(ea p room c l).2.2=0):eP p room c=0:=by
 by_cases u:eP p room c=0
 .exact u
 rw[qq u]at h;exact absurd h u
theorem Gp{p:cB}{room c:Int}{l:List aS}(h:(gg p room c l).2.2=0):eP p room c=0/\(ea p room c l).2.2=0/\(ea p room c l).1.length=l.length/\yK (ea p room c l).2.1=true/\
  LsQ p room c l (gg p room c l).1 (gg p room c l).2.1/\∀j,j<(gg p room c l).1.length->jm (fD p room c ((gg p room c l).1.eraseIdx j)).2 (gg p room c l).2.1=false:=by
 by_cases h1:(ea p room c l).2.2=0
 .by_cases h2:(ea p room c l).1.length≠l.length\/yK (ea p room c l).2.1=false
  .rw[xY h1 h2]at h;exact absurd h (by decide:¬ (13:Int)=0)
  have B:=Rf h1
  have u:LsQ p room c l (ea p room c l).1 (ea p room c l).2.1:=⟨by rw[C4,vV B],λq u=>qf.subset u,vm,ew ⟨rfl,rfl⟩⟩
  have hi:=Gn (jn p room c) (Q:=LsQ p room c l) (λs e k G E u=>u.step B G E) _ _ _ (K9 _) u
  rw[xZ h1 h2]
  refine⟨B,h1,bO,?_,hi.1,hi.2⟩
  cases hb:yK (ea p room c l).2.1 with
  | true=>rfl
  | false=>exact absurd (.inr hb) h2
 rw[xX h1]at h;exact absurd h h1
theorem Og{p:cB}{room c:Int}{l:List aS}(h:(gg p room c l).2.2≠0):(gg p room c l).1=[]:=by
 by_cases h1:(ea p room c l).2.2=0
 .by_cases h2:(ea p room c l).1.length≠l.length\/yK (ea p room c l).2.1=false
  .rw[xY h1 h2]
  rw[xZ h1 h2]at h;exact absurd rfl h
 rw[xX h1]
def Vw{p:cB}{room c:Int}{l:List aS}:(∀q∈(gg p room c l).1,q∈l)/\(gg p room c l).1.length<=l.length:=by
 by_cases h:(gg p room c l).2.2=0
 .obtain⟨_,_,_,_,u,_⟩:=Gp h
  exact⟨u.sub,u.len⟩
 rw[Og h];exact⟨λq u=>(by cases u),l6 _⟩
def Rg{p:cB}{room c:Int}(B:PZ p)(l:List aS):(gg p room c l).2.1.cut.length<=1073741824:=by
 by_cases h:(gg p room c l).2.2=0
 .obtain⟨_,_,_,_,u,_⟩:=Gp h
  have:=Vv (room:=room) (c:=c) B (gg p room c l).1
  rw[u.d]at this
  exact this
 by_cases h1:(ea p room c l).2.2=0
 .by_cases h2:(ea p room c l).1.length≠l.length\/yK (ea p room c l).2.1=false
  .rw[xY h1 h2];exact l6 _
  rw[xZ h1 h2]at h;exact absurd rfl h
 rw[xX h1];exact l6 _
def C5(p:cB)(pv:bP)(n:Two)(lv:Value)(l:List aS)(w:World)(hp:ml w pv p)(hL:DL w lv l):CR 5 [j0 pv,j0 n,lv] w (λv w'=>v=.bool true/\Ext w w'):=by
 have u:=St.start w;refine eZ Tryz.func5 ?_;refine cG (x:=pv) u (λb3 w1 u=>cG (x:=n) u λb4 w2 u=>aD eg u.p1.At (dM aup (C11 p pv _ (Deep.ext hp u.aG)) ?_));rintro _ w3 ⟨E,rfl,B⟩;have u:=u.made B;refine aJ (x:=E) u.p2 eg rfl rfl (λw5 u=>dM azz (C26 lv l _ (hL.ext u.aG)) ?_);rintro sv O B;have u:=((u.made B).p2).hG;obtain⟨M,u,hX⟩:=u.MX;have J:IB (ph M O) E (zT p):=IB.of λw' h=>(hX w' h).1;have Y:GS (ph M O) sv (ti l):=GS.of λw' h=>(hX w' h).2;obtain⟨ts,vT⟩:=id Y;obtain⟨hl1,Dy⟩:=abi l;have G:∀q∈(ti l),q.cut.length<=1000:=λq I=>xe (Dy q I) dD
 have W:∀q∈(ti l),q.cut.length<=1000000:=λq I=>xe (Dy q I) dD;have Z:=Sr p;have hn:ts.length=(ti l).length:=(vT _ u.eF).2.1;have ha:=Eo n.a (b:=3) dD dD;refine mg abu dD dD (bN bL (u.p2.hb.cell (o:=0) rfl) (acu dD dD (aO bO (aK fO (vT _ u.eF).1 (cN (aC (λ_=>?_) λ_=>?_))))))
 .exact aV asH u (C34 _) (λ_ _ u=>⟨rfl,u.aG⟩)
 refine aD (x:=E) eg u.p1.At (mg abu dD dD (bN bL (u.p2.hb.cell (o:=1) rfl) (dM abn (C35 (ph M O) (zT p) E (1+Dc n.a 3) n.b sv (ti l) _ (λ_ e=>(u.ext e).eF) J Z Y bO G) ?_)));rintro _ w9 ⟨ZW,V,rfl,B⟩;have u:=u.made B;refine aN rfl (aN rfl (aN rfl (aM u gd λb9 w1 u=>aJ (x:=V) u eO rfl rfl λw2 u=>aD (x:=E) eg u.p3.At (mg abu dD dD (bN bL (u.p4.hb.cell (o:=1) rfl) (dM azG (C36 (ph M O) (zT p) E (1+Dc n.a 3) n.b sv (ti l) _ (λ_ e=>(u.ext e).p2.eF) J Z Y bO G) ?_))))))
 rintro _ _ ⟨ov2,ID,U,rfl,Od,B⟩;have u:=(u.made B).split;refine aN rfl (aN rfl (aN rfl (aM u gd λTB w3 u=>aJ (x:=U) u eO rfl rfl λ_ u=>?_)));refine⟨λjv w'=>jv=.bool true/\Ext w w',?_,?_⟩;rotate_left
 .rintro _ _ h _;exact h
 obtain⟨tm,hlen⟩:=Vw (p:=(zT p)) (room:=(1+Dc n.a 3)) (c:=n.b) (l:=(ti l));exact aV OM u (C19 ZW ov2 (gg (zT p) (1+Dc n.a 3) n.b (ti l)).1 (gg (zT p) (1+Dc n.a 3) n.b (ti l)).1 _ u.p4.eF.1 (DL.of u.p1.dS (Od _ u.p5.eF)) bO λq I=>W q (tm q I)) (λ_ _ u=>aC (λ_=>aD (x:=V) eO u.p3.At (aD (x:=U) eO u.At (aV alG u (C29 (gg (zT p) (1+Dc n.a 3) n.b (ti l)).2.1 V (gg (zT p) (1+Dc n.a 3) n.b (ti l)).2.1 U _ u.p4.eF.2 u.p2.eF (Rg Z _)) λ_ _ u=>aC (λ_=>aH (aC (λ_=>aV asH u (C34 _) λ_ _ u=>⟨rfl,u.aG⟩) λh=>absurd rfl h)) λh=>absurd rfl h))) λh=>absurd rfl h)
def own:ownKnob Tryz.prog.godebug=none:=by kernel_rfl
def rd9:zD hH 9 ByteArray (λy=>y.size<=maxLen):=RdT.deep (ahW Tryz.underlying9 (by kernel_rfl)) λ_ _=>rfl
def Oz:zD hH 3 Int eY:=RdT.deep (ahV Tryz.underlying3 (by kernel_rfl)) λ_ _=>rfl
theorem azQ:RdT hH 3 Int eY:=ahV Tryz.underlying3 (by kernel_rfl)
def asJ:zD hH 161 cK ym:=λw=>⟨by kernel_rfl,λenc base held fuel cs x h=>by
 obtain⟨Z,n,E⟩:=nZ Tryz.underlying161 h
 obtain⟨y0,W⟩:=E 0 _ rfl
 obtain⟨y1,h1⟩:=E 1 _ rfl
 obtain⟨y2,h2⟩:=E 2 _ rfl
 obtain⟨u,e0,J,M,k0⟩:=(rd9 w).rd enc base held n _ _ W
 obtain⟨B,I,O,d1,V⟩:=(Oz w).rd enc base held n _ _ h1
 obtain⟨G,e2,a2,U,Y⟩:=(Oz w).rd enc base held n _ _ h2
 obtain rfl:u=J:=M
 obtain rfl:B=O:=d1
 obtain rfl:G=a2:=U
 have p0:=ek (s:=1) e0
 have p1:=ek (s:=1) I
 have p2:=ek (s:=1) e2
 have hz:cs.drop 3=[]:=BG.2 (by rw[Z];exact AU (by kernel_rfl))
 refine⟨(⟨u,B,G⟩:cK),?_,(⟨u,B,G⟩:cK),rfl,k0,V,Y⟩
 have e:cs=cs.drop 0:=rfl
 rw[e]
 refine p0.trans ?_
 refine(gQ _ p1).trans ?_
 refine(gQ _ (gQ _ p2)).trans ?_
 exact(gQ _ (gQ _ (gQ _ hz)))⟩
def alP:zD hH 23 (List cK) (λys:(List cK)=>∀y∈ys,ym y):=zD.slice Tryz.underlying23 (by kernel_rfl) asJ
def azL:zD hH 22 (List (List cK)) (λys:(List (List cK))=>∀y∈ys,(λys:(List cK)=>∀y∈ys,ym y) y):=zD.slice Tryz.underlying22 (by kernel_rfl) alP
def azM:zD hH 91 (List ByteArray) (λys:(List ByteArray)=>∀y∈ys,(λy:ByteArray=>y.size<=maxLen) y):=zD.slice Tryz.underlying91 (by kernel_rfl) rd9
def asK:zD hH 164 cA AS:=λw=>⟨by kernel_rfl,λenc base held fuel cs x h=>by
 obtain⟨hl,n,u⟩:=nZ Tryz.underlying164 h
 obtain⟨y0,Z⟩:=u 0 _ rfl
 obtain⟨y1,h1⟩:=u 1 _ rfl
 obtain⟨y2,h2⟩:=u 2 _ rfl
 obtain⟨y3,h3⟩:=u 3 _ rfl
 obtain⟨B,e0,O,U,k0⟩:=(Oz w).rd enc base held n _ _ Z
 obtain⟨E,J,V,d1,Y⟩:=(Oz w).rd enc base held n _ _ h1
 obtain⟨I,e2,a2,W,k2⟩:=(rd9 w).rd enc base held n _ _ h2
 obtain⟨G,M,a3,d3,k3⟩:=(Oz w).rd enc base held n _ _ h3
 obtain rfl:B=O:=U
 obtain rfl:E=V:=d1
 obtain rfl:I=a2:=W
 obtain rfl:G=a3:=d3
 have p0:=ek (s:=1) e0
 have p1:=ek (s:=1) J
 have p2:=ek (s:=1) e2
 have p3:=ek (s:=1) M
 have hz:cs.drop 4=[]:=BG.2 (by rw[hl];exact AU (by kernel_rfl))
 refine⟨(⟨B,E,I,G⟩:cA),?_,(⟨B,E,I,G⟩:cA),rfl,k0,Y,k2,k3⟩
 have e:cs=cs.drop 0:=rfl
 rw[e]
 refine p0.trans ?_
 refine(gQ _ p1).trans ?_
 refine(gQ _ (gQ _ p2)).trans ?_
 refine(gQ _ (gQ _ (gQ _ p3))).trans ?_
 exact(gQ _ (gQ _ (gQ _ (gQ _ hz))))⟩
def alQ:zD hH 82 (List cA) (λys:(List cA)=>∀y∈ys,AS y):=zD.slice Tryz.underlying82 (by kernel_rfl) asK
def asL:zD hH 193 bQ Je:=λw=>⟨by kernel_rfl,λenc base held fuel cs x h=>by
 obtain⟨hl,n,u⟩:=nZ Tryz.underlying193 h
 obtain⟨y0,h0⟩:=u 0 _ rfl
 obtain⟨y1,h1⟩:=u 1 _ rfl
 obtain⟨y2,h2⟩:=u 2 _ rfl
 obtain⟨y3,h3⟩:=u 3 _ rfl
 obtain⟨y4,h4⟩:=u 4 _ rfl
 obtain⟨y5,h5⟩:=u 5 _ rfl
 obtain⟨y6,h6⟩:=u 6 _ rfl
 obtain⟨y7,h7⟩:=u 7 _ rfl
 obtain⟨y8,h8⟩:=u 8 _ rfl
 obtain⟨J,e0,a0,d0,k0⟩:=(Oz w).rd enc base held n _ _ h0
 obtain⟨M,W,a1,d1,k1⟩:=(rd9 w).rd enc base held n _ _ h1
 obtain⟨O,e2,a2,d2,k2⟩:=(rd9 w).rd enc base held n _ _ h2
 obtain⟨V,Y,a3,d3,k3⟩:=(alQ w).rd enc base held n _ _ h3
 obtain⟨U,e4,a4,d4,k4⟩:=(alQ w).rd enc base held n _ _ h4
 obtain⟨B,e5,a5,d5,k5⟩:=(Oz w).rd enc base held n _ _ h5
 obtain⟨E,e6,a6,d6,Z⟩:=(Oz w).rd enc base held n _ _ h6
 obtain⟨G,e7,a7,d7,k7⟩:=(Oz w).rd enc base held n _ _ h7
 obtain⟨I,e8,a8,d8,k8⟩:=(Oz w).rd enc base held n _ _ h8
 obtain rfl:J=a0:=d0
 obtain rfl:M=a1:=d1
 obtain rfl:O=a2:=d2
 obtain rfl:B=a5:=d5
 obtain rfl:E=a6:=d6
 obtain rfl:G=a7:=d7
 obtain rfl:I=a8:=d8
 have p0:=ek (s:=1) e0
 have p1:=ek (s:=1) W
 have p2:=ek (s:=1) e2
 have p3:=ek (s:=1) Y
 have p4:=ek (s:=1) e4
 have p5:=ek (s:=1) e5
 have p6:=ek (s:=1) e6
 have p7:=ek (s:=1) e7
 have p8:=ek (s:=1) e8
 have hz:cs.drop 9=[]:=BG.2 (by rw[hl];exact AU (by kernel_rfl))
 refine⟨(⟨J,M,O,V,U,B,E,G,I⟩:bE),?_,(⟨J,M,O,a3,a4,B,E,G,I⟩:bQ),⟨V,U,rfl,d3,d4⟩,k0,k1,k2,k3,k4,k5,Z,k7,k8⟩
 have e:cs=cs.drop 0:=rfl
 rw[e]
 refine p0.trans ?_
 refine(gQ _ p1).trans ?_
 refine(gQ _ (gQ _ p2)).trans ?_
 refine(gQ _ (gQ _ (gQ _ p3))).trans ?_
 refine(gQ _ (gQ _ (gQ _ (gQ _ p4)))).trans ?_
 refine(gQ _ (gQ _ (gQ _ (gQ _ (gQ _ p5))))).trans ?_
 refine(gQ _ (gQ _ (gQ _ (gQ _ (gQ _ (gQ _ p6)))))).trans ?_
 refine(gQ _ (gQ _ (gQ _ (gQ _ (gQ _ (gQ _ (gQ _ p7))))))).trans ?_
 refine(gQ _ (gQ _ (gQ _ (gQ _ (gQ _ (gQ _ (gQ _ (gQ _ p8)))))))).trans ?_
 exact(gQ _ (gQ _ (gQ _ (gQ _ (gQ _ (gQ _ (gQ _ (gQ _ (gQ _ hz)))))))))⟩
def asM:zD hH 141 (List bQ) (λys:(List bQ)=>∀y∈ys,Je y):=zD.slice Tryz.underlying141 (by kernel_rfl) asL
def asN:zD hH 146 cO yn:=λw=>⟨by kernel_rfl,λenc base held fuel cs x h=>by
 obtain⟨hl,n,u⟩:=nZ Tryz.underlying146 h
 obtain⟨y0,Z⟩:=u 0 _ rfl
 obtain⟨y1,h1⟩:=u 1 _ rfl
 obtain⟨y2,h2⟩:=u 2 _ rfl
 obtain⟨y3,h3⟩:=u 3 _ rfl
 obtain⟨B,e0,O,U,k0⟩:=(rd9 w).rd enc base held n _ _ Z
 obtain⟨G,J,V,d1,Y⟩:=(azM w).rd enc base held n _ _ h1
 obtain⟨I,e2,a2,W,k2⟩:=(asM w).rd enc base held n _ _ h2
 obtain⟨E,M,a3,d3,k3⟩:=(Oz w).rd enc base held n _ _ h3
 obtain rfl:B=O:=U
 obtain rfl:E=a3:=d3
 have p0:=ek (s:=1) e0
 have p1:=ek (s:=1) J
 have p2:=ek (s:=1) e2
 have p3:=ek (s:=1) M
 have hz:cs.drop 4=[]:=BG.2 (by rw[hl];exact AU (by kernel_rfl))
 refine⟨(⟨B,G,I,E⟩:cH),?_,(⟨B,V,a2,E⟩:cO),⟨G,I,rfl,d1,W⟩,k0,Y,k2,k3⟩
 have e:cs=cs.drop 0:=rfl
 rw[e]
 refine p0.trans ?_
 refine(gQ _ p1).trans ?_
 refine(gQ _ (gQ _ p2)).trans ?_
 refine(gQ _ (gQ _ (gQ _ p3))).trans ?_
 exact(gQ _ (gQ _ (gQ _ (gQ _ hz))))⟩
def asO:zD hH 24 (List cO) (λys:(List cO)=>∀y∈ys,yn y):=zD.slice Tryz.underlying24 (by kernel_rfl) asN
def azN:zD hH 85 gS EG:=λw=>⟨by kernel_rfl,λenc base held fuel cs x h=>by
 obtain⟨V,n,E⟩:=nZ Tryz.underlying85 h
 obtain⟨y0,U⟩:=E 0 _ rfl
 obtain⟨y1,h1⟩:=E 1 _ rfl
 obtain⟨B,e0,I,J,Z⟩:=(alQ w).rd enc base held n _ _ U
 obtain⟨u,G,M,W,O⟩:=(Oz w).rd enc base held n _ _ h1
 obtain rfl:u=M:=W
 have p0:=ek (s:=1) e0
 have p1:=ek (s:=1) G
 have Y:cs.drop 2=[]:=BG.2 (by rw[V];exact AU (by kernel_rfl))
 refine⟨(⟨B,u⟩:jC),?_,(⟨I,u⟩:gS),⟨B,rfl,J⟩,Z,O⟩
 have e:cs=cs.drop 0:=rfl
 rw[e]
 refine p0.trans ?_
 refine(gQ _ p1).trans ?_
 exact(gQ _ (gQ _ Y))⟩
def azO:zD hH 25 (List gS) (λys:(List gS)=>∀y∈ys,EG y):=zD.slice Tryz.underlying25 (by kernel_rfl) azN
def rd27:zD hH 27 cB acH:=λw=>⟨by kernel_rfl,λenc base held fuel cs x h=>by
 obtain⟨hl,n,u⟩:=nZ Tryz.underlying27 h
 obtain⟨y0,h0⟩:=u 0 _ rfl
 obtain⟨y1,h1⟩:=u 1 _ rfl
 obtain⟨y2,h2⟩:=u 2 _ rfl
 obtain⟨y3,h3⟩:=u 3 _ rfl
 obtain⟨y4,h4⟩:=u 4 _ rfl
 obtain⟨y5,h5⟩:=u 5 _ rfl
 obtain⟨E,e0,V,Y,k0⟩:=(azL w).rd enc base held n _ _ h0
 obtain⟨G,O,Z,d1,k1⟩:=(alP w).rd enc base held n _ _ h1
 obtain⟨M,e2,a2,d2,k2⟩:=(alP w).rd enc base held n _ _ h2
 obtain⟨J,U,a3,d3,k3⟩:=(asO w).rd enc base held n _ _ h3
 obtain⟨I,e4,W,d4,k4⟩:=(asO w).rd enc base held n _ _ h4
 obtain⟨B,e5,a5,d5,k5⟩:=(azO w).rd enc base held n _ _ h5
 have p0:=ek (s:=1) e0
 have p1:=ek (s:=1) O
 have p2:=ek (s:=1) e2
 have p3:=ek (s:=1) U
 have p4:=ek (s:=1) e4
 have p5:=ek (s:=1) e5
 have hz:cs.drop 6=[]:=BG.2 (by rw[hl];exact AU (by kernel_rfl))
 refine⟨(⟨E,G,M,J,I,B⟩:bP),?_,(⟨V,Z,a2,a3,W,a5⟩:cB),⟨E,G,M,J,I,B,rfl,Y,d1,d2,d3,d4,d5⟩,k0,k1,k2,k3,k4,k5⟩
 have e:cs=cs.drop 0:=rfl
 rw[e]
 refine p0.trans ?_
 refine(gQ _ p1).trans ?_
 refine(gQ _ (gQ _ p2)).trans ?_
 refine(gQ _ (gQ _ (gQ _ p3))).trans ?_
 refine(gQ _ (gQ _ (gQ _ (gQ _ p4)))).trans ?_
 refine(gQ _ (gQ _ (gQ _ (gQ _ (gQ _ p5))))).trans ?_
 exact(gQ _ (gQ _ (gQ _ (gQ _ (gQ _ (gQ _ hz))))))⟩
def azP:zD hH 41 (List Int) (λys:(List Int)=>∀y∈ys,eY y):=zD.slice Tryz.underlying41 (by kernel_rfl) Oz
def rd50:zD hH 50 aS acI:=λw=>⟨by kernel_rfl,λenc base held fuel cs x h=>by
 obtain⟨hl,n,u⟩:=nZ Tryz.underlying50 h
 obtain⟨y0,Z⟩:=u 0 _ rfl
 obtain⟨y1,h1⟩:=u 1 _ rfl
 obtain⟨y2,h2⟩:=u 2 _ rfl
 obtain⟨y3,h3⟩:=u 3 _ rfl
 obtain⟨B,e0,O,U,k0⟩:=(Oz w).rd enc base held n _ _ Z
 obtain⟨E,J,V,d1,Y⟩:=(Oz w).rd enc base held n _ _ h1
 obtain⟨G,e2,a2,W,k2⟩:=(Oz w).rd enc base held n _ _ h2
 obtain⟨I,M,a3,d3,k3⟩:=(azP w).rd enc base held n _ _ h3
 obtain rfl:B=O:=U
 obtain rfl:E=V:=d1
 obtain rfl:G=a2:=W
 have p0:=ek (s:=1) e0
 have p1:=ek (s:=1) J
 have p2:=ek (s:=1) e2
 have p3:=ek (s:=1) M
 have hz:cs.drop 4=[]:=BG.2 (by rw[hl];exact AU (by kernel_rfl))
 refine⟨(⟨B,E,G,I⟩:aI),?_,(⟨B,E,G,a3⟩:aS),⟨I,rfl,d3⟩,k0,Y,k2,k3⟩
 have e:cs=cs.drop 0:=rfl
 rw[e]
 refine p0.trans ?_
 refine(gQ _ p1).trans ?_
 refine(gQ _ (gQ _ p2)).trans ?_
 refine(gQ _ (gQ _ (gQ _ p3))).trans ?_
 exact(gQ _ (gQ _ (gQ _ (gQ _ hz))))⟩
def asP(e:Two):Prop:=eY e.a/\eY e.b
def rd69:RdT hH 69 Two asP:=⟨by kernel_rfl,λenc w base u held fuel cs x h=>by
 obtain⟨xs,n,_,_,V,hs,O⟩:=DataW.trod_array Tryz.underlying69 h
 have hc:Tryz.prog.cellsOf 3=1:=by kernel_rfl
 have g:∀i,i<2->∃y,DataW.trod enc hH w base u held n 3 ((cs.drop i).take 1)=some y:=λi hi=>by
  have:=O i hi
  rw[hc,Nat.mul_one]at this
  exact⟨xs[i]'(bO),by rw[this,List.getElem?_eq_getElem bO]⟩
 obtain⟨y0,U⟩:=g 0 bO
 obtain⟨Z,h1⟩:=g 1 bO
 obtain⟨E,e0,Y⟩:=azQ.rd enc w base u held n _ _ U
 obtain⟨J,B,M⟩:=azQ.rd enc w base u held n _ _ h1
 have G:=ek (s:=1) e0
 have I:=ek (s:=1) B
 have W:cs.drop 2=[]:=BG.2 (by rw[V];exact AU (by kernel_rfl))
 refine⟨⟨E,J⟩,?_,Y,M⟩
 have e:cs=cs.drop 0:=rfl
 rw[e]
 refine G.trans ?_
 refine(gQ _ I).trans ?_
 exact(gQ _ (gQ _ W))⟩
end Go.Proofs.YtpdlpabnlkofmaaGreatDoor
namespace Go.Fw
theorem gz.below{w w':World}(h:gz aZ w w'):Go.RowKit.Below w.heap.size w w':=⟨h.1,h.2,h.3,h.4,λb hb=>h.5 b hb λx=>x⟩
end Go.Fw

/-
  Part 8.
-/
import Derived.Test.YtpdlpabnlkofmaaGreatDoorR4x7
set_option maxHeartbeats 8000000
set_option linter.all false
set_option maxRecDepth 100000
open Go.Fw.Flat renaming val->ia,enc->j0,sz->mv
open ByteArray renaming mk->kp
open List renaming getElem?_eq_some_iff->kE,mem_of_getElem?->kO,take_of_length_le->kW,length_append->lY,length_take->l0,length_singleton->mf,append_assoc->n3,mem_map->oi,append_nil->o6,nil_append->s4,eraseIdx_eq_take_drop_succ->u4,drop_eq_nil_iff->AF,drop_of_length_le->F1,mem_of_mem_eraseIdx->L7
open Nat renaming zero_le->l1,le_refl->o1,zero_add->tW,le_trans->wc,le_of_eq->yQ,not_lt_zero->MW
open Go.Instr renaming build->l2,sliceAt->n4,field->Zg
open Go.Fw.Deep renaming dr->mG
open Int renaming toNat_natCast->pQ
open Decidable renaming not_not->u1
open Go.Value renaming slice->x6,tuple->Bh
namespace Go.Proofs.YtpdlpabnlkofmaaGreatDoor
open Go.Fw
def ahb(s:g9):pr hH (Zg 114 (ia s) 0)=some (hZ s.bZ):=by
 obtain⟨a,b,c,d,e⟩:=s
 kernel_rfl
def C101(K:hM)(p:cE)(pv:bP)(room c:Int)(lv:Value)(l:List aS)(w:World)(G:∀w',Ext w w'->K w')(hp:J3 K pv p)(hz:PZ p)(hl:Ig K lv l)(Bx:l.length<=1000)(J5:∀q∈l,q.cut.length<=1000) :
  CR 101 [ia pv,hZ room,hZ c,lv] w (λv w'=>(eW p room c≠0/\v=.tuple #[.pointer none,.slice none 0 0,hZ (eW p room c)]/\Ext w w')\/
  (eW p room c=0/\∃(b:Nat) (X:hM) (ov:Value),v=.tuple #[.pointer (some ⟨b,0,none⟩),ov,hZ (vH c (iS p room) [] l).2.2]/\wo p 1000 (vH c (iS p room) [] l).1/\(vH c (iS p room) [] l).1.mem.dV=eT p/\lg (sep (gn (λw=>K w/\X w) b (vH c (iS p room) [] l).1) (sep (bH ov (vH c (iS p room) [] l).2.1) (eG X))) w w')):=by
 have u:=St.start w;refine eX Tryz.func101 ?_;refine cI (x:=pv) u (λb4 _ u=>aD et u.At (dQ aqQ (C12 K p pv room _ (λ_ e=>G _ (u.aG.then e)) hp hz) ?_));rintro v21 w2 (⟨h1,rfl,Y⟩|⟨M,h1,rfl,Y⟩|⟨M,hr,b,X,rfl,cL⟩)
 .have u:=u.ext Y;refine aQ rfl (aQ rfl (bW (aC (λ_=>?_) λh=>absurd h1 h)));have e:eW p room c=fj p:=by unfold eW;rw[ew h1]
  rw[e];exact .inl ⟨h1,rfl,u.drop.aG⟩
 .have u:=u.ext Y;refine aQ rfl (aQ rfl (bW (aC (λ_=>?_) λh=>absurd (by decide:(1:Int)≠0) h)));have e:eW p room c=1:=by unfold eW;rw[ej (by rw[M];decide),ew h1]
  rw[e];exact .inl ⟨ee,rfl,u.drop.aG⟩
 have yY:=vG M;have u:=(u.made cL).split;refine aQ rfl (aQ rfl (bW (aC (λh=>absurd rfl h) λ_=>?_)));refine⟨λjv w'=>jv=.bool (decide (c<0\/8<c))/\w'=w2,?_,?_⟩
 .exact aR (aC (λh=>⟨vb (ez (.inl h)).symm,rfl⟩) λ_=>cO ⟨vb (ga.2 cK),rfl⟩)
 rintro _ _ ⟨rfl,rfl⟩ _;refine aC (λh2=>?_) (λh2=>?_)
 .have e:eW p room c=1:=by unfold eW;rw[ej (by rw[M];decide),ej cK,ew h2]
  rw[e];exact .inl ⟨ee,rfl,u.drop.drop.drop.aG⟩
 have hse:eW p room c=0:=by unfold eW;rw[ej (by rw[M];decide),ej cK,ej h2]
 obtain⟨ts,Z⟩:=hl;have hn:ts.length=l.length:=(Z _ (G _ u.aG)).2.1
 have I:∀(k:Nat) (m:gR) (ov:Value) (out:List cH) (f:Int) (w':World),k<=l.length->wo p k m->m.mem.dV=eT p->(vH c (iS p room) [] l)=(m,out,f)->St w bD [bH ov out,gn (λw=>K w/\X w) b m,eG X,bY b4 (j0 pv)] w'->
   (eW p room c≠0/\Bh #[.pointer (some ⟨b,0,none⟩),ov,hZ f]=.tuple #[.pointer none,.slice none 0 0,hZ (eW p room c)]/\Ext w w')\/
   (eW p room c=0/\∃(b':Nat) (X:hM) (V:Value),Bh #[.pointer (some ⟨b,0,none⟩),ov,hZ f]=.tuple #[.pointer (some ⟨b',0,none⟩),V,hZ (vH c (iS p room) [] l).2.2]/\wo p 1000 (vH c (iS p room) [] l).1/\(vH c (iS p room) [] l).1.mem.dV=eT p/\lg (sep (gn (λw=>K w/\X w) b' (vH c (iS p room) [] l).1) (sep (bH V (vH c (iS p room) [] l).2.1) (eG X))) w w'):=by
  intro k m ov out f w' hk B hf Y u;rw[Y];have u:=St.join u.p3.drop.p2.p1;exact .inr ⟨hse,b,X,ov,rfl,B.mono cK,hf,(St.join u.p1).fresh⟩
 refine aK fW (Z _ (G _ u.aG)).1 ?_
 refine⟨λmm o y w'=>∃(k:Nat) (m:gR) (out:List cH),y=hZ (k:Int)/\mm=ts.length-k/\k<=l.length/\out.length<=k/\wo p k m/\m.mem.dV=eT p/\(vH c (iS p room) [] l)=vH c m out (l.drop k)/\St w bD [bH o out,gn (λw=>K w/\X w) b m,eG X,bY b4 (j0 pv)] w',
  ⟨_,0,iS p room,[],rfl,rfl,l1 _,o1 _,wo.new hz yY hr,rfl,rfl,u.eM⟩,?_⟩
 rintro mm ov _ w4 ⟨k,m,out,rfl,rfl,hk,ho,B,Db,E,u⟩ _;refine aR (aC (λc1=>?_) λc1=>?_);rotate_left
 .rw[F1 cK]at E;exact I k m ov out 0 w4 hk B Db E u
 obtain⟨q,hq⟩:=gx l (i:=k) cK;obtain⟨tq,Oc⟩:=gx ts (i:=((k:Nat):Int).toNat) cK;have U:∀w',K w'->mG w' tq q:=λw' h=>(Z w' h).2.2 k tq q Oc hq;obtain⟨O,rfl,_⟩:=U _ (G _ u.aG)
 have hgc:∀w',K w'->dA (λ_=>True) w' (ia O) q.cut:=λw' h=>by
  obtain⟨gc2,e,h3⟩:=U w' h;cases e
  exact DL.flat h3
 have hqc:=J5 q (kO hq)
 have Pz:l.drop k=q::l.drop (k+1):=by
  obtain⟨h1,h2⟩:=kE.1 hq;rw[List.drop_eq_getElem_cons h1,h2]
 rw[Pz]at E;have rn:=B.mb.mono (b:=1000000) cK;have CX:=B.cr;refine aO fW (Z _ (G _ u.aG)).1 cK Oc (λq37 h37=>aD j6 h37 (aM u BL λb15 _ u=>aJ (x:=(⟨q.kind,q.t,q.i,O⟩:aI)) u j6 rfl rfl λ_ u=>?_));refine⟨λjv w'=>jv=.bool (decide (q.kind=3/\c<=m.bZ))/\St w bD [bY b15 (j0 (⟨q.kind,q.t,q.i,O⟩:aI)),bH ov out,gn (λw=>K w/\X w) b m,eG X,bY b4 (j0 pv)] w',?_,?_⟩
 .exact aA mU (aB (v:=hZ q.kind) bL u.hb rfl (aH (aC (λJ=>aV aju u (C68 (λw=>K w/\X w) b m _ u.p2.has (λ_ e=>⟨G _ (u.aG.then e),(u.ext e).p3.eG⟩) B.ok) λ_ _ u=>pop (ahb (iR m)) (cR ⟨vb (ga.2 ⟨λh=>⟨J,h⟩,λh=>h.2⟩),u⟩)) λJ=>⟨vb (fN λh=>J h.1).symm,u⟩)))
 rintro _ w8 ⟨rfl,u⟩ _;refine aC (λJ=>?_) (λJ=>?_)
 .rw[vH,ew J]at E;exact I k m ov out 14 w8 hk B Db E u.drop
 rw[vH,ej J]at E;refine aD (x:=(⟨q.kind,q.t,q.i,O⟩:aI)) j6 u.At (bF aqO u.p2 (H':=λ_=>gn (λw=>K w/\X w) b (oL m q).1) (Φ:=λv _=>v=.tuple #[ia (oL m q).2.1,hZ (oL m q).2.2]) (λF2 eb dW=>?_) ?_)
 .exact C24 (λw=>K w/\X w) b m q O F2 _ eb (λw' hc=>⟨G _ (dW w' hc).aG,(dW w' hc).p2.eG⟩) B.ok (B.pr▸yY) rn cK (λw' hc=>hgc _ (G _ (dW w' hc).aG)) hqc
 rintro _ _ rfl u;refine aQ rfl (aQ rfl (aM u mq λb16 _ u=>aJ (x:=(oL m q).2.1) u fm rfl rfl λw11 u=>bW ?_));have F7:=B.step (q:=q) yY;have W:=(QT B.ok q).trans Db;refine aC (λc3=>?_) (λc3=>?_)
 .rw[ew c3]at E;exact I (k+1) _ ov out _ w11 cK F7 W E u.drop.p1.drop.p1
 rw[ej c3]at E;refine aD (x:=(oL m q).2.1) fm u.At (aZ [(oL m q).2.1] u aca rfl rfl (dL rfl) λs64 _ u=>?_);have alj:=u.dX;refine bJ u.p4 aca alj (by rw[mf];omega) ee (λs65 _ u=>aN cK ?_);refine⟨ts.length-(k+1),cK,k+1,_,out++[(oL m q).2.1],rfl,rfl,cK,by rw[lY,mf];omega,F7,W,E,?_⟩;exact u.p1.drop.p1.drop.p2.drop
def C40(K:hM)(p:cE)(pv:bP)(room c:Int)(lv:Value)(l:List aS)(w:World)(B:∀w',Ext w w'->K w')(J:J3 K pv p)(V:PZ p)(O:Ig K lv l)(M:l.length<=1000)(Y:∀q∈l,q.cut.length<=1000) :
  CR 40 [ia pv,hZ room,hZ c,lv] w (λv w'=>∃(ev:aI) (ov:Value),v=.tuple #[ia ev,ov,hZ (Bs p room c l).2.2.1,hZ (Bs p room c l).2.2.2]/\lg (sep (eG λw=>mG w ev (Bs p room c l).1) (bH ov (Bs p room c l).2.1)) w w'):=by
 have u:=St.start w;refine eX Tryz.func40 ?_;refine cI (x:=pv) u (λb4 _ u=>aM u gW λb8 _ u=>have u:=u.enc (cs':=j0 (⟨0,0,0,bX⟩:aI)) rfl;aD et u.p1.At (dQ asd (C101 K p pv room c lv l _ (λ_ e=>B _ (u.aG.then e)) J V O M Y) ?_));rintro U w3 (⟨h1,rfl,Z⟩|⟨h1,b,X,ov,rfl,E,W,I⟩)
 .have u:=u.ext Z;refine aQ rfl (aQ rfl (aQ rfl (bW (aC (λ_=>?_) λh=>absurd h1 h))));refine pop ui (aK aca (dA.nil (α:=cH) (λ_=>True) w) (aJ (x:=(⟨0,0,0,bX⟩:aI)) u fc rfl rfl λw4 u=>aD (x:=(⟨0,0,0,bX⟩:aI)) fc u.At ?_));rw[alf h1];exact⟨_,_,rfl,(St.join ((u.drop.drop.eM (α:=cH)).fy (Φ:=λw=>mG w (⟨0,0,0,bX⟩:aI) zE) yZ)).fresh⟩
 have u:=(((u.made I).split).p1.split);refine aQ rfl (aQ rfl (aQ rfl (bW (aC (λh2=>?_) λh2=>?_))))
 .refine pop ui (aK aca u.dX (aJ (x:=(⟨0,0,0,bX⟩:aI)) u.p3 fc rfl rfl λw4 u=>aD (x:=(⟨0,0,0,bX⟩:aI)) fc u.At ?_));rw[alg h1 h2];exact⟨_,_,rfl,(St.join ((u.drop.drop.drop.drop.drop.eM (α:=cH)).fy (Φ:=λw=>mG w (⟨0,0,0,bX⟩:aI) zE) yZ)).fresh⟩
 have h3:(vH c (iS p room) [] l).2.2=0:=u1.1 h2;refine aD et u.p4.At (dQ ase (C102 (λw=>K w/\X w) b (vH c (iS p room) [] l).1 pv _ u.p2.has (λ_ e=>⟨B _ (u.aG.then e),(u.ext e).p1.eG⟩) E.ok (W.trans (by rw[E.pr])) (by rw[E.pr];exact J.pr _ (B _ u.aG))) ?_);rintro _ _ ⟨G,rfl,I⟩;have u:=u.made I;refine aJ (x:=G) u.p4 fc rfl rfl (λ_ u=>aD (x:=G) fc u.At ?_);rw[aaX h1 h3];exact⟨G,ov,rfl,(St.join u.drop.p2.drop.p2.drop.p2.drop).fresh⟩
variable (w:World) (K:Value->hM)
def P97:dI:=λi=>match i with
 | 2=>(.op 0 [] (.op 1 [] (.op 3 [] (.op 4 [] (.op 5 [] (.op 6 [] (.op 7 [] (.op 8 [] (.op 9 [] (.op 10 [] (.op 11 [] (.op 12 [] (.op 13 [] (.alt 2 [1,6,9,13] (.alt 14 [1,6,9] (.op 15 [] (.alt 16 [1] (.of [(17,[]),(18,[1,6,9,13]),(19,[])]) (.alt 18 [1,6,9,13] (.of [(16,[1]),(17,[]),(19,[])]) .stop))) (.alt 18 [1,6,9,13] (.of [(14,[1,6,9]),(15,[]),(16,[1]),(17,[]),(19,[])]) .stop)) (.alt 14 [1,6,9] (.op 15 [] (.alt 2 [1,6,9,13] (.alt 16 [1] (.of [(17,[]),(18,[1,6,9,13]),(19,[])]) (.alt 18 [1,6,9,13] (.of [(16,[1]),(17,[]),(19,[])]) .stop)) (.alt 18 [1,6,9,13] (.of [(2,[1,6,9,13]),(16,[1]),(17,[]),(19,[])]) .stop))) (.alt 18 [1,6,9,13] (.alt 2 [1,6,9,13] (.of [(14,[1,6,9]),(15,[]),(16,[1]),(17,[]),(19,[])]) (.alt 14 [1,6,9] (.of [(15,[]),(2,[1,6,9,13]),(16,[1]),(17,[]),(19,[])]) .stop)) .stop))))))))))))))))
 | _=>.nil
theorem aza:PL 97:=dJ Tryz.func97
end Go.Proofs.YtpdlpabnlkofmaaGreatDoor
namespace Go.Proofs.YtpdlpabnlkofmaaGreatDoor
open Go.Fw
def QU{p:cE}(hc:Gw p):yu (eT p):=λv B=>by
 obtain⟨c,E,rfl⟩:=oi.1 B
 have h:iP 4294967296 c=false:=by
  rcases List.mem_append.1 E with h1|h1
  .obtain⟨l,u,h2⟩:=List.mem_flatten.1 h1
   exact(hc.f.lines l u).2 c h2
  .exact hc.f.iO c h1
 unfold iP at h
 simp only[Bool.or_eq_false_iff,decide_eq_false_iff_not]at h
 show -9223372036854775808<=c.n/\c.n<=9223372036854775807
 omega
def aeY{p:cE}{room:Int}(hc:Gw p):JZ (iS p room):=by
 have h:=QU hc
 exact JZ.begin (m:=xC p room) ⟨h,h.take _,h,λk x u=>by cases u⟩
def vJ(l:List Bool)(j:Nat):Int×Int:=if u9 (l.drop j)<(l.drop j).length then(2,((j+u9 (l.drop j):Nat):Int))else(1,0)
theorem alk{l:List Bool}{j:Nat}{b:Bool}(h:l[j]?=some b)(hb:b=false):vJ l j=(2,(j:Int)):=by
 unfold vJ
 rw[Ih h,hb,ew (by show 0<_;simp)];rfl
theorem alm{l:List Bool}{j:Nat}{b:Bool}(h:l[j]?=some b)(hb:b=true):vJ l j=vJ l (j+1):=by
 have e:u9 (l.drop j)=u9 (l.drop (j+1))+1:=by rw[Ih h,hb];rfl
 grind[vJ]
theorem aln{l:List Bool}{j:Nat}(h:l.length<=j):vJ l j=(1,0):=by grind[vJ]
theorem alo{m:gR}(h:¬ m.fault≠0)(h2:mL m=false)(h3:lz m=true):og m=vJ (fb m) 0:=by
 unfold vJ
 rw[List.drop_zero,tW]
 by_cases c:u9 (fb m)<(fb m).length
 .rw[ew c]
  have e:yy (fb m)=u9 (fb m):=by unfold yy;omega
  rw[aaU h h2 h3 cK,e]
 rw[ej c]
 have e:yy (fb m) = -1:=by unfold yy;omega
 rw[aaV h h2 h3 cK]
def C97(K:hM)(p:Nat)(m:gR)(w:World)(hm:Has (qM K p m) w)(hw:∀w',Ext w w'->K w')(O:oJ m)(hvo:JZ m)(Db:m.mem.dV=eT m.p):CR 97 [.pointer (some ⟨p,0,none⟩)] w (λv w'=>∃ev:aI,v=ia ev/\lg (eG λw=>mG w ev (Cp m)) w w'):=by
 obtain⟨a,B⟩:=qM.rd hm;have E:=B.b.cell (o:=8) rfl;have iT:=qL m.p;have hcb:=O.pz.dS;have ay1:m.mem.l.length=(im m.p).length:=by rw[O.mem.ll,Db];unfold eT;grind
 have TP:(im m.p).length<=20:=by have:=O.mem.fl;have:=O.mem.ll;omega
 obtain⟨ov,fv,lv,kv,wv,ws,jZ,G,hmo,hmf,Cx,arZ,hmw⟩:=B.mem.ex;have EW:(fb m).length<=1000000:=by grind[fb]
 have u:=St.start w;refine oH Tryz.func97 (pl:=P97) ?_;refine aM u gW (λb2 _ u=>have u:=u.enc (cs':=j0 (⟨0,0,0,bX⟩:aI)) rfl;aV ayt u (C74 K p m _ (hm.ext u.aG) (λ_ e=>hw _ (u.aG.then e)) O) λ_ U u=>dT ayu u (C75 K p m _ (hm.ext u.aG) (λ_ e=>hw _ (u.aG.then e)) O hvo Db) λW _ cL u=>aM u xW λb3 _ u=>aJ (x:=iR m) u yH rfl rfl λ_ u=>?_);have u:=u.drew;refine⟨λjv w'=>∃(J:Nat) (sv:SV),jv=.pointer (some ⟨J,0,none⟩)/\St w bD [bY J (j0 (⟨0,0,m.bZ,sv⟩:aI)),bH (ia (sv:SV)) (m.mem.l.take (ey m.p).toNat),bY b3 (j0 (iR m)),bH W (fb m),bY b2 (j0 (⟨0,0,0,bX⟩:aI))] w',?_,?_⟩
 .refine aA KT (aB (v:=hZ m.bZ) bL u.hb rfl (aE (aA tm (bM qk (E.ext u.aG) (aE (aA rW (bM eg ((G.cell (o:=2) rfl).ext u.aG) (aE (aA oQ (qg a.pv et (mR.ext B.b u.aG) rfl ?_))))))))));refine⟨aZ ([]:List Int) u cS rfl rfl (dL rfl) (λY _ u=>⟨aF bL (u.p1.hb.cell rfl),⟨aF qk (E.ext u.aG),⟨aF eg ((G.cell (o:=2) rfl).ext u.aG),⟨jx a.pv et (mR.ext B.b u.aG) rfl,⟨aV Iw u (C62 m.p a.pv _ (B.uk.pr _ (hw _ u.aG)) O.pz) (λ_ U u=>⟨aF bL (u.p1.hb.cell rfl),⟨aF qk (E.ext u.aG),⟨aF eg ((G.cell (o:=2) rfl).ext u.aG),l4 cS Cx cK cK λV M=>⟨?_,?_,trivial⟩⟩⟩⟩),?_,trivial⟩⟩⟩⟩⟩),aV Iw u (C62 m.p a.pv _ (B.uk.pr _ (hw _ u.aG)) O.pz) (λw23 U u=>⟨aF bL (u.hb.cell rfl),⟨aF qk (E.ext u.aG),⟨aF eg ((G.cell (o:=2) rfl).ext u.aG),l4 cS Cx cK cK λV M=>⟨aZ ([]:List Int) u cS rfl rfl (dL rfl) (λY w24 u=>⟨aF bL (u.p1.hb.cell rfl),⟨aF qk (E.ext u.aG),⟨aF eg ((G.cell (o:=2) rfl).ext u.aG),⟨jx a.pv et (mR.ext B.b u.aG) rfl,⟨?_,?_,trivial⟩⟩⟩⟩⟩),?_,trivial⟩⟩⟩⟩),?_,trivial⟩
  .refine bJ u cS (M.ext u.aG) (by rw[l0];simp;omega) ee (λI _ u=>?_);refine⟨aF bL (u.p1.hb.cell rfl),?_⟩;rw[s4]at u;obtain⟨sv,rfl⟩:=u.fI;refine pop (lf m.bZ _ _ _) (aM u gW λJ _ u=>?_);refine⟨aF bL (u.p2.hb.cell rfl),?_⟩;refine⟨aF qk (E.ext u.aG),?_⟩;refine⟨aF eg ((G.cell (o:=2) rfl).ext u.aG),?_⟩;refine⟨jx a.pv et (mR.ext B.b u.aG) rfl,?_⟩;exact aJ (x:=(⟨0,0,m.bZ,sv⟩:aI)) u fc rfl rfl (λ_ u=>⟨_,_,rfl,u⟩)
  .refine aM u gW (λJ _ u=>?_);refine⟨aF bL (u.p2.hb.cell rfl),?_⟩;refine⟨aF qk (E.ext u.aG),?_⟩;refine⟨aF eg ((G.cell (o:=2) rfl).ext u.aG),?_⟩;refine⟨jx a.pv et (mR.ext B.b u.aG) rfl,?_⟩;refine bJ u.p1 cS (M.ext u.aG) (by rw[l0];simp;omega) ee (λI _ u=>?_);refine⟨aF bL (u.p2.hb.cell rfl),?_⟩;rw[s4]at u;obtain⟨sv,rfl⟩:=u.fI;exact pop (lf m.bZ _ _ _) (aJ (x:=(⟨0,0,m.bZ,sv⟩:aI)) u.p1 fc rfl rfl λ_ u=>⟨_,_,rfl,u⟩)
  .refine aM u gW (λJ _ u=>?_);refine⟨aF bL (u.p2.hb.cell rfl),?_⟩;refine⟨aF qk (E.ext u.aG),?_⟩;refine⟨aF eg ((G.cell (o:=2) rfl).ext u.aG),?_⟩;refine⟨jx a.pv et (mR.ext B.b u.aG) rfl,?_⟩;refine aV Iw u (C62 m.p a.pv _ (B.uk.pr _ (hw _ u.aG)) O.pz) (λw20 U u=>?_);refine⟨aF bL (u.p2.hb.cell rfl),?_⟩;refine⟨aF qk (E.ext u.aG),?_⟩;refine⟨aF eg ((G.cell (o:=2) rfl).ext u.aG),?_⟩;refine l4 cS Cx cK cK (λV M=>bJ u.p1 cS (M.ext u.aG) (by rw[l0];simp;omega) ee λI w21 u=>?_)
   refine⟨aF bL (u.p2.hb.cell rfl),?_⟩;rw[s4]at u;obtain⟨sv,rfl⟩:=u.fI;exact pop (lf m.bZ _ _ _) (aJ (x:=(⟨0,0,m.bZ,sv⟩:aI)) u.p1 fc rfl rfl λ_ u=>⟨_,_,rfl,u⟩)
  .refine bJ u cS (M.ext u.aG) (by rw[l0];simp;omega) ee (λI w25 u=>?_);refine⟨aF bL (u.p1.hb.cell rfl),?_⟩;rw[s4]at u;obtain⟨sv,rfl⟩:=u.fI;refine pop (lf m.bZ _ _ _) (aM u gW λJ w26 u=>?_);refine⟨aF bL (u.p2.hb.cell rfl),?_⟩;refine⟨aF qk (E.ext u.aG),?_⟩;refine⟨aF eg ((G.cell (o:=2) rfl).ext u.aG),?_⟩;refine⟨jx a.pv et (mR.ext B.b u.aG) rfl,?_⟩;exact aJ (x:=(⟨0,0,m.bZ,sv⟩:aI)) u fc rfl rfl (λ_ u=>⟨_,_,rfl,u⟩)
  .refine aM u gW (λJ _ u=>?_);refine⟨aF bL (u.p2.hb.cell rfl),?_⟩;refine⟨aF qk (E.ext u.aG),?_⟩;refine⟨aF eg ((G.cell (o:=2) rfl).ext u.aG),?_⟩;refine⟨jx a.pv et (mR.ext B.b u.aG) rfl,?_⟩;refine bJ u.p1 cS (M.ext u.aG) (by rw[l0];simp;omega) ee (λI _ u=>?_);refine⟨aF bL (u.p2.hb.cell rfl),?_⟩;rw[s4]at u;obtain⟨sv,rfl⟩:=u.fI;exact pop (lf m.bZ _ _ _) (aJ (x:=(⟨0,0,m.bZ,sv⟩:aI)) u.p1 fc rfl rfl λ_ u=>⟨_,_,rfl,u⟩)
  .refine aM u gW (λJ _ u=>?_);refine⟨aF bL (u.p1.hb.cell rfl),?_⟩;refine⟨aF qk (E.ext u.aG),?_⟩;refine⟨aF eg ((G.cell (o:=2) rfl).ext u.aG),?_⟩;refine⟨jx a.pv et (mR.ext B.b u.aG) rfl,?_⟩;refine aZ ([]:List Int) u cS rfl rfl (dL rfl) (λY _ u=>?_);refine⟨aF bL (u.p2.hb.cell rfl),?_⟩;refine⟨aF qk (E.ext u.aG),?_⟩;refine⟨aF eg ((G.cell (o:=2) rfl).ext u.aG),?_⟩;refine⟨jx a.pv et (mR.ext B.b u.aG) rfl,?_⟩;refine bJ u cS (M.ext u.aG) (by rw[l0];simp;omega) ee (λI _ u=>?_);refine⟨aF bL (u.p2.hb.cell rfl),?_⟩
   rw[s4]at u;obtain⟨sv,rfl⟩:=u.fI;exact pop (lf m.bZ _ _ _) (aJ (x:=(⟨0,0,m.bZ,sv⟩:aI)) u.p1 fc rfl rfl λ_ u=>⟨_,_,rfl,u⟩)
  refine aM u gW (λJ _ u=>?_);refine⟨aF bL (u.p1.hb.cell rfl),?_⟩;refine⟨aF qk (E.ext u.aG),?_⟩;refine⟨aF eg ((G.cell (o:=2) rfl).ext u.aG),?_⟩;refine⟨jx a.pv et (mR.ext B.b u.aG) rfl,?_⟩;refine⟨?_,?_,trivial⟩
  .refine aZ ([]:List Int) u cS rfl rfl (dL rfl) (λY _ u=>?_);refine⟨aF bL (u.p2.hb.cell rfl),?_⟩;refine⟨aF qk (E.ext u.aG),?_⟩;refine⟨aF eg ((G.cell (o:=2) rfl).ext u.aG),?_⟩;refine⟨jx a.pv et (mR.ext B.b u.aG) rfl,?_⟩;refine aV Iw u (C62 m.p a.pv _ (B.uk.pr _ (hw _ u.aG)) O.pz) (λ_ U u=>?_);refine⟨aF bL (u.p2.hb.cell rfl),?_⟩;refine⟨aF qk (E.ext u.aG),?_⟩;refine⟨aF eg ((G.cell (o:=2) rfl).ext u.aG),?_⟩;refine l4 cS Cx cK cK (λV M=>bJ u cS (M.ext u.aG) (by rw[l0];simp;omega) ee λI _ u=>?_)
   refine⟨aF bL (u.p2.hb.cell rfl),?_⟩;rw[s4]at u;obtain⟨sv,rfl⟩:=u.fI;exact pop (lf m.bZ _ _ _) (aJ (x:=(⟨0,0,m.bZ,sv⟩:aI)) u.p1 fc rfl rfl λ_ u=>⟨_,_,rfl,u⟩)
  refine aV Iw u (C62 m.p a.pv _ (B.uk.pr _ (hw _ u.aG)) O.pz) (λ_ U u=>?_);refine⟨aF bL (u.p1.hb.cell rfl),?_⟩;refine⟨aF qk (E.ext u.aG),?_⟩;refine⟨aF eg ((G.cell (o:=2) rfl).ext u.aG),?_⟩;refine l4 cS Cx cK cK (λV M=>aZ ([]:List Int) u cS rfl rfl (dL rfl) λY _ u=>?_);refine⟨aF bL (u.p2.hb.cell rfl),?_⟩;refine⟨aF qk (E.ext u.aG),?_⟩;refine⟨aF eg ((G.cell (o:=2) rfl).ext u.aG),?_⟩;refine⟨jx a.pv et (mR.ext B.b u.aG) rfl,?_⟩;refine bJ u cS (M.ext u.aG) (by rw[l0];simp;omega) ee (λI _ u=>?_)
  refine⟨aF bL (u.p2.hb.cell rfl),?_⟩;rw[s4]at u;obtain⟨sv,rfl⟩:=u.fI;exact pop (lf m.bZ _ _ _) (aJ (x:=(⟨0,0,m.bZ,sv⟩:aI)) u.p1 fc rfl rfl λ_ u=>⟨_,_,rfl,u⟩)
 rintro _ _ ⟨J,sv,rfl,u⟩ _
 have Z:∀w',St w bD [bY b2 (j0 (⟨(og m).1,(og m).2,m.bZ,sv⟩:aI)),bY J (j0 (⟨(og m).1,(og m).2,m.bZ,sv⟩:aI)),bH (ia (sv:SV)) (m.mem.l.take (ey m.p).toNat),bY b3 (j0 (iR m)),bH W (fb m)] w'->∃ev:aI,ia (⟨(og m).1,(og m).2,m.bZ,sv⟩:aI)=ia ev/\lg (eG λw=>mG w ev (Cp m)) w w':=λw' u=>by
  have u:=u.drop.drop.p1.drop.p1.drop.freeze.dM (Ψ:=λw=>mG w (⟨(og m).1,(og m).2,m.bZ,sv⟩:aI) (Cp m)) (λ_ h=>⟨sv,rfl,DL.j1 h⟩);exact⟨_,rfl,u.fresh⟩
 refine aA Am (aB (v:=hZ m.fault) bL u.p2.hb rfl (bW (aC (λc1=>?_) λc1=>?_)))
 .rw[aaS c1]at Z;exact aA j7 (aT u bL (dL rfl) rfl λ_ u=>aA Am (aB (v:=hZ m.fault) bL u.p2.hb rfl (aA qe (aT u bL (dL rfl) rfl λ_ u=>aD (x:=(⟨(3,m.fault).1,(3,m.fault).2,m.bZ,sv⟩:aI)) fc u.At (aJ (x:=(⟨(3,m.fault).1,(3,m.fault).2,m.bZ,sv⟩:aI)) u.p4 fc rfl rfl λ_ u=>aD (x:=(⟨(3,m.fault).1,(3,m.fault).2,m.bZ,sv⟩:aI)) fc u.At (Z _ u))))))
 refine aA qm (aB (v:=.bool (mL m)) Ak u.p2.hb rfl (aY (λc2=>?_) λc2=>?_))
 .rw[aaT c1 c2]at Z;exact aA j7 (aT u bL (dL rfl) rfl λ_ u=>aD (x:=(⟨((4,0):Int×Int).1,((4,0):Int×Int).2,m.bZ,sv⟩:aI)) fc u.At (aJ (x:=(⟨((4,0):Int×Int).1,((4,0):Int×Int).2,m.bZ,sv⟩:aI)) u.p4 fc rfl rfl λ_ u=>aD (x:=(⟨((4,0):Int×Int).1,((4,0):Int×Int).2,m.bZ,sv⟩:aI)) fc u.At (Z _ u)))
 refine aA ql (aB (v:=.bool (lz m)) Ak u.p2.hb rfl (bR (aY (λc3=>?_) λc3=>?_)))
 .rw[aaW c1 c2 (by simpa using c3)]at Z;exact aD (x:=(⟨((0,0):Int×Int).1,((0,0):Int×Int).2,m.bZ,sv⟩:aI)) fc u.At (aJ (x:=(⟨((0,0):Int×Int).1,((0,0):Int×Int).2,m.bZ,sv⟩:aI)) u.p4 fc rfl rfl λ_ u=>aD (x:=(⟨((0,0):Int×Int).1,((0,0):Int×Int).2,m.bZ,sv⟩:aI)) fc u.At (Z _ u))
 rw[alo c1 c2 (by simpa using c3)]at Z;refine aA j7 (aT u bL (dL rfl) rfl λw23 u=>aK ux u.p3.dX (fg cK ?_));refine⟨λmm y w'=>∃j:Nat,y=hZ ((j:Int)-1)/\mm=j/\j<=(fb m).length/\St w bD [bY J (j0 (⟨(vJ (fb m) j).1,(vJ (fb m) j).2,m.bZ,sv⟩:aI)),bH (ia (sv:SV)) (m.mem.l.take (ey m.p).toNat),bY b3 (j0 (iR m)),bH W (fb m),bY b2 (j0 (⟨0,0,0,bX⟩:aI))] w',⟨_,(fb m).length,rfl,rfl,o1 _,by rw[aln (o1 _)];exact u⟩,?_⟩;rintro j _ w24 ⟨_,rfl,rfl,hj,u⟩ _;refine cR (aC (λc4=>?_) λc4=>?_)
 rotate_left
 .obtain rfl:j=0:=cK
  exact aD (x:=(⟨(vJ (fb m) 0).1,(vJ (fb m) 0).2,m.bZ,sv⟩:aI)) fc u.At (aJ (x:=(⟨(vJ (fb m) 0).1,(vJ (fb m) 0).2,m.bZ,sv⟩:aI)) u.p4 fc rfl rfl λ_ u=>aD (x:=(⟨(vJ (fb m) 0).1,(vJ (fb m) 0).2,m.bZ,sv⟩:aI)) fc u.At (Z _ u))
 obtain⟨i,rfl⟩:∃i,j=i+1:=⟨j-1,cK⟩;rw[show(((i+1:Nat):Int)-1)=(i:Int)from cK];obtain⟨e,U⟩:=gx (fb m) (i:=((i:Nat):Int).toNat) cK;refine⟨λw'=>St w bD [bY J (j0 (⟨(vJ (fb m) i).1,(vJ (fb m) i).2,m.bZ,sv⟩:aI)),bH (ia (sv:SV)) (m.mem.l.take (ey m.p).toNat),bY b3 (j0 (iR m)),bH W (fb m),bY b2 (j0 (⟨0,0,0,bX⟩:aI))] w',?_,?_⟩;rotate_left
 .intro w26 u _;exact fg cK ⟨_,Nat.lt_succ_self _,i,rfl,rfl,cK,u⟩
 refine aO ux u.p3.dX cK U (λq hq=>aD Ak hq ?_);rw[pQ]at U;refine bR (aY (λc5=>?_) λc5=>?_)
 .rw[alk U (by simpa using c5)];exact aA j7 (aT u bL (dL rfl) rfl λ_ u=>aA qe (aT u bL (dL rfl) rfl λ_ u=>u))
 rw[alm U (by simpa using c5)];exact u
structure sV(p:cE)(n:Nat)(m:gR):Prop where
 go:wo p n m
 vo:JZ m
 fi:m.mem.dV=eT p
def sV.step{p:cE}{n:Nat}{m:gR}{q:aS}(h:sV p n m)(hc:Gw p):sV p (n+1) (oL m q).1:=⟨h.go.step hc,h.vo.do,(QT h.go.ok q).trans h.fi⟩
def sV.new{p:cE}{room:Int}(B:PZ p)(hc:Gw p)(u:1<=room/\room<=16):sV p 0 (iS p room):=⟨wo.new B hc u,aeY hc,rfl⟩
def sV.mono{p:cE}{a b:Nat}{m:gR}(h:sV p a m)(u:a<=b):sV p b m:=⟨h.go.mono u,h.vo,h.fi⟩
variable (w:World) (K:Value->hM)
def P41:dI:=λi=>match i with
 | 6=>.run 0 9
 | _=>.nil
def P26:dI:=λi=>match i with
 | 6=>(.of [(1,[]),(2,[]),(3,[]),(4,[]),(5,[]),(6,[]),(7,[]),(8,[]),(9,[]),(10,[]),(11,[]),(12,[]),(13,[]),(0,[5,10]),(14,[]),(15,[]),(16,[])])
 | _=>.nil
theorem alq:PL 29:=dJ Tryz.func29
theorem azb:PL 99:=dJ Tryz.func99
theorem azc:PL 26:=dJ Tryz.func26
end Go.Proofs.YtpdlpabnlkofmaaGreatDoor
namespace Go.Proofs.YtpdlpabnlkofmaaGreatDoor
open Go.Fw
def QV(e:aS):Bool:=decide (2<=e.kind/\e.kind<=4)
def C29(a:aS)(U:aI)(b:aS)(O:aI)(w:World)(G:mG w U a)(hb:mG w O b)(V:a.cut.length<=1073741824):CR 29 [ia U,ia O] w (λv w'=>v=.bool (decide (a=b))/\Ext w w'):=by
 obtain⟨E,rfl,G⟩:=G;obtain⟨B,rfl,hb⟩:=hb;have u:=St.start w;refine eX Tryz.func29 ?_;refine cI (x:=(⟨a.kind,a.t,a.i,E⟩:aI)) u (λb2 _ u=>cI (x:=(⟨b.kind,b.t,b.i,B⟩:aI)) u λb3 _ u=>?_);refine⟨λW w'=>W=.bool (decide (a=b))/\St w bD [bY b3 (j0 (⟨b.kind,b.t,b.i,B⟩:aI)),bY b2 (j0 (⟨a.kind,a.t,a.i,E⟩:aI))] w',?_,?_⟩
 .refine aA j7 (aB (v:=hZ a.kind) bL u.p1.hb rfl (aA j7 (aB (v:=hZ b.kind) bL u.hb rfl (aH (aC (λJ=>?_) λJ=>⟨vb (fN λh=>J (by rw[h])).symm,u⟩)))));refine aA qe (aB (v:=hZ a.t) bL u.p1.hb rfl (aA qe (aB (v:=hZ b.t) bL u.hb rfl ?_)));exact aH (aC (λM=>aA Rt (aB (v:=hZ a.i) bL u.p1.hb rfl (aA Rt (aB (v:=hZ b.i) bL u.hb rfl (aH (aC (λI=>aA Ru (aB (v:=ia (E:SV)) eg u.p1.hb rfl (aA Ru (aB (v:=ia (B:SV)) eg u.hb rfl (aV amr u (C71 _ _ a.cut b.cut _ (DL.flat (G.ext u.aG)) (DL.flat (hb.ext u.aG)) V) λ_ _ u=>⟨vb (ga.2 ⟨λh=>Bj.2 ⟨J,M,I,h⟩,λh=>by rw[h]⟩),u⟩))))) λI=>⟨vb (fN λh=>I (by rw[h])).symm,u⟩)))))) λM=>⟨vb (fN λh=>M (by rw[h])).symm,u⟩)
 rintro _ _ ⟨rfl,u⟩ _;exact⟨rfl,u.drop.drop.aG⟩
def C99(e:aS)(ev:aI)(w:World)(E:mG w ev e):CR 99 [ia ev] w (λv w'=>v=.bool (QV e)/\Ext w w'):=by
 obtain⟨g,rfl,_⟩:=E;have u:=St.start w;refine eX Tryz.func99 ?_;refine cI (x:=(⟨e.kind,e.t,e.i,g⟩:aI)) u (λb2 _ u=>?_);refine⟨λB w'=>B=.bool (QV e)/\St w bD [bY b2 (j0 (⟨e.kind,e.t,e.i,g⟩:aI))] w',?_,?_⟩
 .exact aA j7 (aB (v:=hZ e.kind) bL u.hb rfl (aH (aC (λ_=>⟨vb (ez cK).symm,u⟩) λ_=>aA j7 (aB (v:=hZ e.kind) bL u.hb rfl (aH (aC (λ_=>⟨vb (ez cK).symm,u⟩) λ_=>aA j7 (aB (v:=hZ e.kind) bL u.hb rfl (aH ⟨vb (ga.2 cK),u⟩))))))))
 rintro _ _ ⟨rfl,u⟩ _;exact⟨rfl,u.drop.aG⟩
def F4(q:aS):aS:={q with cut:=q.cut.take 25}
def oF(l:List aS):List aS:=(l.take 40).map F4
def aaZ(l:List aS):(oF l).length<=40/\∀q∈oF l,q.cut.length<=25:=by
 unfold oF
 refine⟨dD,λq u=>?_⟩
 obtain⟨x,_,rfl⟩:=oi.1 u
 show(x.cut.take 25).length<=25
 grind
theorem asi(xs:List Int):([]:List Int)++xs.take (min (xs.length:Int) 25).toNat=xs.take 25:=by
 rw[s4]
 rcases Int.le_total (xs.length:Int) 25 with h|h
 .rw[Int.min_eq_left h,pQ,kW (o1 _),kW cK]
 grind
def C26(lv:Value)(l:List aS)(w:World)(hL:DL w lv l):CR 26 [lv] w (λv w'=>lg (eG λw=>DL w v (oF l)) w w'):=by
 obtain⟨ts,I,hD⟩:=hL.open;have hn:ts.length=l.length:=hD.1;have u:=St.start w;refine oH Tryz.func26 (pl:=P26) ?_;refine tD (α:=aS) u fW (λs6 _ u=>?_);refine⟨λZ o y w'=>∃k:Nat,y=hZ (k:Int)/\Z=40-k/\k<=40/\k<=l.length/\St w bD [fT o ((l.take k).map F4)] w',⟨_,0,rfl,rfl,l1 _,l1 _,u⟩,?_⟩;rintro Z o _ w2 ⟨k,rfl,rfl,hk,xf,u⟩ _;have Cx:((l.take k).map F4).length=k:=by rw[List.length_map,l0];omega
 refine⟨λjv w'=>jv=.bool (decide (k<l.length/\k<40))/\w'=w2,?_,?_⟩
 .exact aK fW (I.ext u.aG) (aR (aC (λ_=>aR ⟨vb (ga.2 cK),rfl⟩) λ_=>⟨vb (fN cK).symm,rfl⟩))
 rintro _ _ ⟨rfl,rfl⟩ _;refine aC (λc2=>?_) (λc2=>?_);rotate_left
 .rw[qC (xs:=l) (k:=k) (m:=40) cK cK c2]at u;exact u.mV.fresh
 obtain⟨q,hq⟩:=gx l (i:=k) cK;obtain⟨tq,J⟩:=gx ts (i:=((k:Nat):Int).toNat) cK;obtain⟨M,rfl,W⟩:=hD.2 k tq q J hq;have hc:=DL.flat W;refine aO fW I cK J (λq19 V=>aD j6 (V.ext u.aG) (aM u BL λb5 _ u=>aJ (x:=(⟨q.kind,q.t,q.i,M⟩:aI)) u j6 rfl rfl λ_ u=>have u:=u.drew;aO fW I cK J λq24 Y=>bV M l8 Y rfl rfl λq25 E=>aD eg (E.ext u.aG) (aO fW I cK J λq29 O=>bV M l8 O rfl rfl λq30 G=>aD eg (G.ext u.aG) (aK cS (hc.ext u.aG) (rA (jP cS hc cK cK λs34 U=>?_))))))
 refine aZ ([]:List Int) u cS rfl rfl (dL rfl) (λs21 _ u=>?_);refine⟨eH eg (E.ext u.aG),?_⟩;refine⟨eH eg (G.ext u.aG),?_⟩;refine bJ u cS (U _ (hc.ext u.aG)) (by rw[l0];simp;omega) ee (λs35 _ u=>?_);rw[asi]at u;obtain⟨B,rfl⟩:=u.fI;exact aA l8 (aT u.p1 eg (dL rfl) rfl λ_ u=>have u:=u.enc (cs':=j0 (⟨q.kind,q.t,q.i,B⟩:aI)) rfl;aD (x:=(⟨q.kind,q.t,q.i,B⟩:aI)) j6 u.At (have u:=u.p1.freeze.dM (Ψ:=λw=>mG w (⟨q.kind,q.t,q.i,B⟩:aI) (F4 q)) (λ_ h=>⟨B,rfl,DL.j1 h⟩);gg (x:=F4 q) (s:=(⟨q.kind,q.t,q.i,B⟩:aI)) u fW ee λ_ _ u=>gh u.p2 fW (by rw[Cx,mf];omega) ee λ_ _ u=>aN cK ⟨_,cK,k+1,rfl,rfl,cK,cK,by rw[<- gd (k:=k) hq];exact u.p1.drop⟩))
variable (w:World) (K:Value->hM)
def P30:dI:=λi=>match i with
 | 3=>.run 0 10
 | _=>.nil
theorem azd:PL 98:=dJ Tryz.func98
theorem QW:PL 30:=dJ Tryz.func30
theorem Va:PL 32:=dJ Tryz.func32
theorem aze:PL 31:=dJ Tryz.func31
theorem azf:PL 33:=dJ Tryz.func33
end Go.Proofs.YtpdlpabnlkofmaaGreatDoor
namespace Go.Fw
section
variable {P:Program}{w w0:World}{A S:Nat->Prop}{L:List HP}{α:Type}[Flat α] {xs ys:List α}
theorem aa1{T E I:Nat}{z:Option Nat}{v:Value}{i:Int}{K:Value->Prop}(ht:eN P T=some (E,mv α,I,z))(G:dA S w v xs)
  (B:0<=i) (h1:i<=xs.length) (k:∀a:Option Addr,(∀w' (ys:List α),dA S w' v ys->dA S w' (.slice a i.toNat i.toNat) (ys.take i.toNat))->K (.slice a i.toNat i.toNat)):eR P (n4 T v none (some (hZ i)) (some (hZ i))) K:=by
 obtain⟨a,cap,rfl,J,h3⟩:=id G
 refine⟨_,JA ht (zN (.inl ⟨rfl,rfl⟩) ⟨i,rfl,B,rfl⟩ ⟨i,rfl,B,rfl⟩ (l1 _) (o1 _) cK),k _ λw' ys u=>?_⟩
 refine u.aqC rfl (l1 _) ?_
 obtain⟨_,_,h4,_⟩:=u
 simp only[x6.injEq]at h4
 omega
theorem NV{T E kD R:Nat}{a:Option Addr}{n:Nat}{src:Value}{K:Value->hM}(hs:St w0 A L w)(ht:Vi P T E (mv α) kD)(hr:dA (λ_=>True) w (.slice a n n) xs)(uu:dA S w src ys)
  (hn:xs.length+ys.length<=1073741824) (hby:kD<=8192) (k:∀v' w',(St w0 A (bH v' (xs++ys)::L) w'\/(ys=[]/\v'=.slice a n n/\w'=w))->K v' w'):rJ P (Builtin.append_ #[T,T] R [.slice a n n,src].toArray) w K:=by
 obtain⟨Y,u,hi,oK,wE,O⟩:=fp ht
 obtain⟨zv,I,hzs⟩:∃zv,u.zero=some zv/\zv.cells.size=mv α:=by
  cases Tz:u.zero with
  | none=>rw[Tz]at O;cases O
  | some zv=>rw[Tz]at O;exact⟨zv,rfl,by simpa using O⟩
 have hmul:(xs.length+ys.length)*u.bytes<=140737488355328:=by
  have:=Nat.mul_le_mul hn (show u.bytes<=8192 by omega);omega
 obtain⟨a',CV,hv,_,h3⟩:=id hr
 simp only[x6.injEq]at hv
 obtain⟨rfl,G,rfl⟩:=hv
 obtain⟨sa,U,rfl,hsc,Z⟩:=id uu
 by_cases hy:ys=[]
 .subst hy
  refine⟨.slice a n n,w,?_,k _ _ (.inr ⟨rfl,rfl,rfl⟩)⟩
  cases a<;>cases sa<;>simp[Builtin.append_,run_underlying Y,sizeOf,typeInfo,hi,Builtin.lenOf,Builtin.firstCells,loadCells,loadCellsFrom,storeCells]
 have Ag:0<ys.length:=List.length_pos_iff.2 hy
 rcases Z with⟨h,_⟩|⟨V,M,rfl,_,Vj⟩
 .exact absurd h hy
 have J:∀(c:Nat),n<=c->c<n+ys.length->(Builtin.append_ #[T,T] R [.slice a n n,.slice (some ⟨V,M,none⟩) ys.length U].toArray).run P w=.ok (.slice (some ⟨w.heap.size,0,none⟩) (n+ys.length) (grownCap w (n+ys.length) c E)) (w.drew.alloc (.cells ((flat xs).toArray++(flat ys).toArray++Builtin.zeroCells zv.cells (grownCap w (n+ys.length) c E-(n+ys.length))) E))->
   rJ P (Builtin.append_ #[T,T] R [.slice a n n,.slice (some ⟨V,M,none⟩) ys.length U].toArray) w K:=λc _ hc Gd=>by
  have Ox:=grownCap_ge w (n+ys.length) c E
  have he:Ext w (w.drew.alloc (.cells ((flat xs).toArray++(flat ys).toArray++Builtin.zeroCells zv.cells (grownCap w (n+ys.length) c E-(n+ys.length))) E)):=⟨rfl,rfl,rfl,ei,λb hb _=>xQ w.drew _ b hb⟩
  have cL:=hs.new (H:=bH (.slice (some ⟨w.heap.size,0,none⟩) (n+ys.length) (grownCap w (n+ys.length) c E)) (xs++ys)) (F:=λk=>k=w.heap.size) he (by
   refine .inr ⟨w.heap.size,grownCap w (n+ys.length) c E,(Builtin.zeroCells zv.cells (grownCap w (n+ys.length) c E-(n+ys.length))).toList,by rw[lY,G],⟨E,?_⟩,?_,λ_=>Iff.rfl⟩
   .refine Eq.trans (mj w.drew (.cells ((flat xs).toArray++(flat ys).toArray++Builtin.zeroCells zv.cells (grownCap w (n+ys.length) c E-(n+ys.length))) E)) ?_
    congr 2
    apply Array.ext'
    simp[gF]
   .refine⟨by rw[lY,<- G];exact Ox,yQ (Eq.symm ?_)⟩
    have e:(Builtin.zeroCells zv.cells (grownCap w (n+ys.length) c E-(n+ys.length))).toList.length=(grownCap w (n+ys.length) c E-(n+ys.length))*mv α:=by
     rw[Array.length_toList,size_zeroCells,hzs]
    rw[lY,e,dB,lY,<- G,<- Nat.add_mul]
    congr 1
    omega) λb hb=>by rw[hb];exact o1 _
  exact⟨_,_,Gd,k _ _ (.inl cL)⟩
 cases a with
 | none=>
  have hx:xs=[]:=by
   rcases h3 with⟨h,_⟩|⟨b,o,h,_⟩
   .exact h
   .cases h
  subst hx
  obtain rfl:n=0:=G
  refine J 0 (o1 _) cK ?_
  have B:=run_append_nil (P:=P) w T R E u zv Y hi I ⟨V,M,none⟩ ys.length U (flat ys) (by rw[dB,oK]) (rK Vj) Ag cK (wc (by simpa using hmul:ys.length*u.bytes<=140737488355328) ee)
  rw[tW]
  simpa[kK]using B
 | some p=>
  have W:∀j v,(flat xs)[j]?=some v->w.cell? (p.add j)=some v:=λj v hj=>by
   rcases h3 with⟨h,_⟩|⟨b,o,h,_,h5⟩
   .rw[h,kK]at hj;simp at hj
   .cases h;exact rK h5 j v hj
  have B:=run_append_grow (P:=P) w T R E u zv Y hi I p n n (flat xs) (by rw[dB,oK,G]) W ⟨V,M,none⟩ ys.length U (flat ys) (by rw[dB,oK]) (rK Vj) cK cK (growslice_fits cK (by rw[G];exact hmul))
  exact J n (o1 _) cK B
end
end Go.Fw
namespace Go.Proofs.YtpdlpabnlkofmaaGreatDoor
open Go.Fw
def fM(c:Int):gR->List aS->gR×List aS
 | m,[]=>(m,[])
 | m,q::r=>if q.kind=3/\c<=m.bZ then fM c m r else if (oL m q).2.2≠0 then fM c (oL m q).1 r else((fM c (oL m q).1 r).1,q::(fM c (oL m q).1 r).2)
def fo(p:cE)(room c:Int)(l:List aS):List aS×aS×Int:=
 if eW p room c≠0 then([],zE,eW p room c)else((fM c (iS p room) l).2,Cp (fM c (iS p room) l).1,0)
theorem Th{m:gR}{q:aS}(h:(oL m q).2.2≠0):(oL m q).1=m:=by
 unfold oL at h |-
 split
 .rename_i h1;rw[h1]at h;exact absurd rfl h
 rename_i h1;rw[h1]at h;dsimp only at h |-
 split at h
 .rename_i h2
  rw[ew h2]
  split at h
  .rename_i h3
   rw[ew h3]
   split at h
   .exact absurd rfl h
   rfl
  exact absurd rfl h
 rename_i h2;rw[ej h2]
theorem Bt(c:Int):∀(l:List aS) (m:gR) (o:List cH),(vH c m o (fM c m l).2).1=(fM c m l).1/\(vH c m o (fM c m l).2).2.2=0
 | [],m,o=>⟨rfl,rfl⟩
 | q::r,m,o=>by
  unfold fM
  split
  .exact Bt c r m o
  rename_i h1
  split
  .rename_i h2
   rw[Th h2]
   exact Bt c r m o
  .rename_i h2
   show(vH c m o (q::_)).1=_/\(vH c m o (q::_)).2.2=0
   rw[vH,ej h1,ej h2]
   exact Bt c r _ _
theorem NW{p:cE}{room c:Int}(h:eW p room c=0)(l:List aS):(Bs p room c (fM c (iS p room) l).2).1=Cp (fM c (iS p room) l).1/\(Bs p room c (fM c (iS p room) l).2).2.2.1=0:=by
 obtain⟨h1,h2⟩:=Bt c l (iS p room) []
 rw[aaX h h2,h1]
 exact⟨rfl,rfl⟩
theorem xL(c:Int):∀(l:List aS) (m:gR),fM c m (fM c m l).2=fM c m l
 | [],m=>rfl
 | q::r,m=>by
  by_cases h1:q.kind=3/\c<=m.bZ
  .have e:fM c m (q::r)=fM c m r:=by rw[fM,ew h1]
   rw[e];exact xL c r m
  by_cases h2:(oL m q).2.2≠0
  .have e:fM c m (q::r)=fM c m r:=by rw[fM,ej h1,ew h2,Th h2]
   rw[e];exact xL c r m
  .have e:∀s,fM c m (q::s)=((fM c (oL m q).1 s).1,q::(fM c (oL m q).1 s).2):=λs=>by rw[fM,ej h1,ej h2]
   rw[e]
   show fM c m (q::(fM c (oL m q).1 r).2)=_
   rw[e,xL c r]
theorem va(c:Int):∀(l:List aS) (m:gR),(fM c m l).2.Sublist l
 | [],m=>List.Sublist.refl _
 | q::r,m=>by
  unfold fM
  split
  .exact(va c r m).cons q
  .split
   .exact(va c r _).cons q
   .exact(va c r _).cons₂ q
theorem vK{p:cE}{room c:Int}{l:List aS}(h:eW p room c≠0):fo p room c l=([],zE,eW p room c):=by unfold fo;rw[ew h]
theorem J6{p:cE}{room c:Int}{l:List aS}(h:eW p room c=0):fo p room c l=((fM c (iS p room) l).2,Cp (fM c (iS p room) l).1,0):=by unfold fo;rw[ej (by rw[h];decide)]
def yo{p:cE}{room c:Int}{l:List aS}:(fo p room c l).1.Sublist l:=by
 unfold fo;split
 .exact List.nil_sublist _
 exact va _ _ _
def Ii{p:cE}{room c:Int}{l:List aS}:(fo p room c l).1.length<=l.length:=yo.length_le
def nq(a b:aS):Bool:=decide (a.kind=b.kind/\a.t=b.t)
def pq(D:List aS->List aS×aS):Nat->List aS->aS->Nat->Bool->List aS×aS×Bool
 | 0,s,e,_,ch=>(s,e,ch)
 | n+1,s,e,k,ch=>if k<s.length then(if nq (D (s.eraseIdx k)).2 e=true then pq D n (D (s.eraseIdx k)).1 (D (s.eraseIdx k)).2 k true else pq D n s e (k+1) ch)else(s,e,ch)
def uj(D:List aS->List aS×aS):Nat->List aS->aS->List aS×aS
 | 0,s,e=>(s,e)
 | n+1,s,e=>if (pq D (s.length+1) s e 0 false).2.2=true then uj D n (pq D (s.length+1) s e 0 false).1 (pq D (s.length+1) s e 0 false).2.1 else((pq D (s.length+1) s e 0 false).1,(pq D (s.length+1) s e 0 false).2.1)
def jb(p:cE)(room c:Int)(s:List aS):List aS×aS:=((fo p room c s).1,(fo p room c s).2.1)
def pY(p:cE)(room c:Int)(l:List aS):List aS×aS×Int:=
 if (fo p room c l).2.2≠0 then([],zE,(fo p room c l).2.2)
 else if (fo p room c l).1.length≠l.length\/QV (fo p room c l).2.1=false then([],zE,13)
 else((uj (jb p room c) ((fo p room c l).1.length+1) (fo p room c l).1 (fo p room c l).2.1).1,(uj (jb p room c) ((fo p room c l).1.length+1) (fo p room c l).1 (fo p room c l).2.1).2,0)
section
variable {D:List aS->List aS×aS}(hD:∀s,(D s).1.length<=s.length)
theorem yp{s:List aS}{k:Nat}(h:k<s.length):(s.eraseIdx k).length+1=s.length:=by rw[List.length_eraseIdx_of_lt h];omega
include hD in
theorem vL:∀(n u:Nat) (s:List aS) (e:aS) (k:Nat) (ch:Bool),s.length<n+k->s.length<u+k->pq D n s e k ch=pq D u s e k ch
 | 0,0,s,e,k,ch,h,B=>rfl
 | 0,u+1,s,e,k,ch,h,B=>by rw[pq,pq,ej cK]
 | n+1,0,s,e,k,ch,h,B=>by rw[pq,pq,ej cK]
 | n+1,u+1,s,e,k,ch,h,B=>by
  rw[pq,pq]
  split
  .rename_i h1
   have h2:=hD (s.eraseIdx k)
   have h3:=yp h1
   split
   .exact vL n u _ _ _ _ cK cK
   .exact vL n u _ _ _ _ cK cK
  .rfl
def nd(D:List aS->List aS×aS)(s:List aS)(e:aS)(k:Nat)(ch:Bool):List aS×aS×Bool:=pq D (s.length+1) s e k ch
include hD in
theorem Ij{s:List aS}{e:aS}{k:Nat}{ch:Bool}(h:k<s.length)(h2:nq (D (s.eraseIdx k)).2 e=true):nd D s e k ch=nd D (D (s.eraseIdx k)).1 (D (s.eraseIdx k)).2 k true:=by
 have h3:=hD (s.eraseIdx k)
 have h4:=yp h
 unfold nd
 rw[pq,ew h,ew h2]
 exact vL hD _ _ _ _ _ _ cK cK
include hD in
theorem NX{s:List aS}{e:aS}{k:Nat}{ch:Bool}(h:k<s.length)(h2:¬ nq (D (s.eraseIdx k)).2 e=true):nd D s e k ch=nd D s e (k+1) ch:=by
 unfold nd
 conv=>lhs;rw[pq,ew h,ej h2]
 exact vL hD _ _ _ _ _ _ cK cK
theorem Cq{s:List aS}{e:aS}{k:Nat}{ch:Bool}(h:¬ k<s.length):nd D s e k ch=(s,e,ch):=by
 unfold nd;rw[pq,ej h]
include hD in
theorem vc:∀(n:Nat) (s:List aS) (e:aS) (k:Nat) (ch:Bool),s.length<n+k->(nd D s e k ch).1.length<=s.length/\(ch=false->(nd D s e k ch).2.2=true->(nd D s e k ch).1.length<s.length)
 | 0,s,e,k,ch,h=>by rw[Cq cK];exact⟨o1 _,λh1 h2=>by rw[h1]at h2;cases h2⟩
 | n+1,s,e,k,ch,h=>by
  by_cases h1:k<s.length
  .have h3:=hD (s.eraseIdx k)
   have h4:=yp h1
   by_cases h2:nq (D (s.eraseIdx k)).2 e=true
   .rw[Ij hD h1 h2]
    have:=vc n (D (s.eraseIdx k)).1 (D (s.eraseIdx k)).2 k true cK
    exact⟨cK,λ_ _=>cK⟩
   .rw[NX hD h1 h2]
    exact vc n s e (k+1) ch cK
  .rw[Cq h1];exact⟨o1 _,λh1 h2=>by rw[h1]at h2;cases h2⟩
def vM(D:List aS->List aS×aS)(s:List aS)(e:aS):List aS×aS:=uj D (s.length+1) s e
include hD in
theorem CN:∀(n u:Nat) (s:List aS) (e:aS),s.length<n->s.length<u->uj D n s e=uj D u s e
 | 0,_,s,e,h,_=>absurd h (MW _)
 | _+1,0,s,e,_,h=>absurd h (MW _)
 | n+1,u+1,s,e,h,B=>by
  rw[uj,uj]
  split
  .rename_i h1
   have:=(vc hD (s.length+1) s e 0 false cK).2 rfl h1
   unfold nd at this
   exact CN n u _ _ cK cK
  .rfl
include hD in
theorem Vb{s:List aS}{e:aS}(h:(nd D s e 0 false).2.2=true):vM D s e=vM D (nd D s e 0 false).1 (nd D s e 0 false).2.1:=by
 have h2:=(vc hD (s.length+1) s e 0 false cK).2 rfl h
 unfold vM
 conv=>lhs;rw[uj]
 unfold nd at h h2 |-
 rw[ew h]
 exact CN hD _ _ _ _ cK cK
theorem QX{s:List aS}{e:aS}(h:(nd D s e 0 false).2.2=false):vM D s e=((nd D s e 0 false).1,(nd D s e 0 false).2.1):=by
 unfold vM
 rw[uj]
 unfold nd at h |-
 rw[ej (by rw[h];decide)]
end
def qX{α:Type}(l:List α)(k:Int):List α:=if k<0\/(l.length:Int)<=k then l else l.eraseIdx k.toNat
theorem aa2{α:Type}{l:List α}{k:Nat}(h:k<l.length):qX l (k:Int)=l.eraseIdx k:=by unfold qX;rw[ej cK,pQ]
def yq{α:Type}(l:List α)(k:Int):(qX l k).length<=l.length:=by
 unfold qX;split
 .exact o1 _
 exact List.length_eraseIdx_le l _
def DP{α:Type}{l:List α}{k:Int}{x:α}(h:x∈qX l k):x∈l:=by
 unfold qX at h;split at h
 .exact h
 exact L7 h
theorem Ti{α:Type}{l:List α}{k:Int}(u:0<=k)(h1:k<l.length):l.take k.toNat++l.drop (k+1).toNat=qX l k:=by
 unfold qX
 rw[ej cK,u4,show(k+1).toNat=k.toNat+1 from cK]
theorem aa3{α:Type}{l:List α}{k:Nat}(h:k<l.length):qX (l.take (k+1)) (k:Int)=qX (l.take k) (k:Int):=by
 have e:(l.take (k+1)).length=k+1:=by rw[l0];omega
 have u:(l.take k).length=k:=by rw[l0];omega
 rw[aa2 cK]
 unfold qX
 rw[ew cK,u4,List.take_take,Nat.min_eq_left cK,F1 cK,o6]
theorem alr{α:Type}{l:List α}{i:Nat}{k:Int}{x:α}(h:l[i]?=some x)(G:(i:Int)≠k):qX (l.take (i+1)) k=qX (l.take i) k++[x]:=by
 have B:=(kE.1 h).1
 have e:(l.take (i+1)).length=i+1:=by rw[l0];omega
 have E:(l.take i).length=i:=by rw[l0];omega
 have u:l.take (i+1)=l.take i++[x]:=by rw[List.take_add_one,h];rfl
 unfold qX
 by_cases c:k<0\/((l.take i).length:Int)<=k
 .rw[ew c,ew cK,u]
 rw[ej c,ej cK,u,List.eraseIdx_append_of_lt_length cK]
def F5{α σ:Type}[Flat σ][Deep α σ]{w:World}{ts:List σ}{xs:List α}{k:Int}(h:gM ts xs w):gM (qX ts k) (qX xs k) w:=by
 have u:ts.length=xs.length:=h.1
 unfold qX
 rw[u]
 split
 .exact h
 rename_i c
 rw[u4,u4]
 exact(h.take _).append (h.drop _)
def C98(sv:Value)(xs:List aI)(w:World)(B:dA (λ_=>True) w sv xs)(J:xs.length<=1000000):CR 98 [sv] w (λv w'=>lg (bH v xs) w w'):=by
 have u:=St.start w;refine eX Tryz.func98 ?_;refine G4 Tryz.underlying39 (B.ext u.aG) (λp E=>aY (λI=>?_) λ_=>aZ ([]:List aI) u fW rfl rfl (dL rfl) λ_ _ u=>bJ u fW (B.ext u.aG) (by simp;omega) ee λ_ _ u=>u.fresh);have G:=E I;subst G;exact(u.eM (α:=aI)).fresh
def C30(K:hM)(lv:Value)(ts:List aI)(k:Int)(w:World)(O:∀w',Ext w w'->K w')(M:∀w,K w->dA (λ_=>True) w lv ts)(W:ts.length<=1000000):CR 30 [lv,hZ k] w (λv w'=>lg (eG λw=>K w->dA (λ_=>True) w v (qX ts k)) w w'):=by
 have B:=M _ (O _ (Ext.refl _));have u:=St.start w;refine oH Tryz.func30 (pl:=P30) ?_;refine⟨λY w'=>Y=.bool (decide (k<0\/(ts.length:Int)<=k))/\w'=w,?_,?_⟩
 .exact aR (aC (λc=>⟨vb (ez (.inl c)).symm,rfl⟩) λ_=>aK fW (B.ext u.aG) (cR ⟨vb (ga.2 cK),rfl⟩))
 rintro _ _ ⟨rfl,rfl⟩ _;refine aC (λc=>?_) (λc=>?_)
 .refine dT azd u (C98 lv ts _ (B.ext u.aG) W) (λG _ Z u=>?_);have e:qX ts k=ts:=by unfold qX;rw[ew c]
  rw[e];exact(u.freeze.dM (Ψ:=λw=>K w->dA (λ_=>True) w G ts) λ_ h _=>h).fresh
 refine aa1 fW (B.ext u.aG) cK cK (λa J=>aN cK (Fx fW (B.ext u.aG) cK cK λU E=>have u:=u.drew;NV u fW (J _ _ (B.ext u.aG)) (E _ _ (B.ext u.aG)) (by rw[l0,List.length_drop];omega) ee λv _ I=>?_));rw[Ti cK cK]at I
 rcases I with u|⟨V,rfl,rfl⟩
 .exact(u.freeze.dM (Ψ:=λw=>K w->dA (λ_=>True) w v (qX ts k)) λ_ h _=>h).fresh
 refine(u.fy (Φ:=λw=>K w->dA (λ_=>True) w _ (qX ts k)) λw h=>?_).fresh;rw[<- Ti cK cK,V,o6];exact J _ _ (M _ h)
def C31(K:hM)(lv:Value)(ts:List aI)(k:Int)(w:World)(M:∀w',Ext w w'->K w')(Y:∀w,K w->dA (λ_=>True) w lv ts)(hn:ts.length<=1000000):CR 31 [lv,hZ k] w (λv w'=>lg (eG λw=>K w->dA (λ_=>True) w v (qX ts k)) w w'):=by
 have J:=Y _ (M _ (Ext.refl _));have u:=St.start w;refine eX Tryz.func31 ?_;refine aZ ([]:List aI) u fW rfl rfl (dL rfl) (λx7 _ u=>?_);refine⟨λI o y w'=>∃i:Nat,y=hZ (i:Int)/\I=ts.length-i/\i<=ts.length/\St w bD [bH o (qX (ts.take i) k)] w',⟨_,0,rfl,rfl,l1 _,by rw[show qX (ts.take 0) k=[]from List.length_eq_zero_iff.1 (by have:=yq (ts.take 0) k;simpa using this)];exact u⟩,?_⟩;rintro I o _ _ ⟨i,rfl,rfl,hi,u⟩ _;refine aK fW (J.ext u.aG) (aR (aC (λZ=>?_) λZ=>?_));rotate_left
 .rw[kW cK]at u;exact(u.freeze.dM (Ψ:=λw=>K w->dA (λ_=>True) w o (qX ts k)) λ_ h _=>h).fresh
 obtain⟨x,E⟩:=gx ts (i:=((i:Nat):Int).toNat) cK;refine⟨λV w'=>St w bD [bH V (qX (ts.take (i+1)) k)] w',?_,?_⟩
 .refine bW (aC (λG=>?_) λG=>?_)
  .refine aO fW (J.ext u.aG) cK E (λq W=>aD j6 W (aZ [x] u fW rfl rfl (dL rfl) λU _ u=>?_));have B:=u.dX;refine bJ u.p1 fW B (by have:=yq (ts.take i) k;rw[l0]at this;rw[mf];omega) ee (λO _ u=>?_);rw[pQ]at E;rw[alr E G];exact u.p1.drop
  obtain rfl:(i:Int)=k:=u1.1 G;rw[aa3 cK];exact u
 rintro o2 _ u _;exact aN cK ⟨_,cK,i+1,rfl,rfl,cK,u⟩
def C32(a:aS)(E:aI)(b:aS)(J:aI)(w:World)(I:mG w E a)(hb:mG w J b):CR 32 [ia E,ia J] w (λv w'=>v=.bool (nq a b)/\Ext w w'):=by
 obtain⟨M,rfl,I⟩:=I;obtain⟨G,rfl,hb⟩:=hb;have u:=St.start w;refine eX Tryz.func32 ?_;refine cI (x:=(⟨a.kind,a.t,a.i,M⟩:aI)) u (λb2 _ u=>cI (x:=(⟨b.kind,b.t,b.i,G⟩:aI)) u λb3 _ u=>?_);refine⟨λO w'=>O=.bool (nq a b)/\St w bD [bY b3 (j0 (⟨b.kind,b.t,b.i,G⟩:aI)),bY b2 (j0 (⟨a.kind,a.t,a.i,M⟩:aI))] w',?_,?_⟩
 .exact aA j7 (aB (v:=hZ a.kind) bL u.p1.hb rfl (aA j7 (aB (v:=hZ b.kind) bL u.hb rfl (aH (aC (λB=>aA qe (aB (v:=hZ a.t) bL u.p1.hb rfl (aA qe (aB (v:=hZ b.t) bL u.hb rfl (aH ⟨vb (ga.2 ⟨λh=>⟨B,h⟩,λh=>h.2⟩),u⟩))))) λB=>⟨vb (fN λh=>B h.1).symm,u⟩)))))
 rintro _ _ ⟨rfl,u⟩ _;exact⟨rfl,u.drop.drop.aG⟩
def C33(a:aS)(E:aI)(b:aS)(J:aI)(w:World)(I:mG w E a)(hb:mG w J b):CR 33 [ia E,ia J] w (λv w'=>v=.bool (nq a b)/\Ext w w'):=by
 obtain⟨M,rfl,I⟩:=I;obtain⟨G,rfl,hb⟩:=hb;have u:=St.start w;refine eX Tryz.func33 ?_;refine cI (x:=(⟨a.kind,a.t,a.i,M⟩:aI)) u (λb2 _ u=>cI (x:=(⟨b.kind,b.t,b.i,G⟩:aI)) u λb3 _ u=>?_);refine⟨λO w'=>O=.bool (nq a b)/\St w bD [bY b3 (j0 (⟨b.kind,b.t,b.i,G⟩:aI)),bY b2 (j0 (⟨a.kind,a.t,a.i,M⟩:aI))] w',?_,?_⟩
 .exact aA j7 (aB (v:=hZ a.kind) bL u.p1.hb rfl (aA j7 (aB (v:=hZ b.kind) bL u.hb rfl (aH (aC (λB=>aA qe (aB (v:=hZ a.t) bL u.p1.hb rfl (aA qe (aB (v:=hZ b.t) bL u.hb rfl (aH ⟨vb (ga.2 ⟨λh=>⟨B,h⟩,λh=>h.2⟩),u⟩))))) λB=>⟨vb (fN λh=>B h.1).symm,u⟩)))))
 rintro _ _ ⟨rfl,u⟩ _;exact⟨rfl,u.drop.drop.aG⟩
variable (w:World) (K:Value->hM)
def S27(p0 qJ I l3:Value):Prop:=
 rJ hH (Instr.box 27 p0) w λp4 a=>aL 63 a λb c=>lA 27 p4 c λd=>cF 12 [d,qJ] c λe f=>xT e 0 λg=>xT e 1 λh=>bB .neq 31 h (i 0) λj=>cV j (eR hH (l2 63 [].toArray) λk=>
 sA 63 b k f λl=>lA 63 b l λr=>K (.tuple #[(.slice none 0 0),r,h]) l) (fe (λK1=>bB .lss 3 I (i 0) λn=>cV n (K1 tt f) (bB .gtr 3 I (i 8) λo=>K1 o f))
 (λp q=>∀_:Env,
 cV p (eR hH (l2 63 [].toArray) λs=>sA 63 b s q λt=>lA 63 b t λIy=>K (.tuple #[(.slice none 0 0),Iy,(i 1)]) t) (lN 39 l3 λu=>px (λK2 G v x=>∀_:Env,
 bA .lss 3 v u λy=>cV y (fe (λU=>iA 39 l3 v λz=>lA 50 z x λaa=>aL 50 x λB ac=>sA 50 B aa ac λV=>fe (λK4=>fA 50 B 0 λae=>lA 3 ae V λaf=>
 bB .eql 3 af (i 3) λag=>cV ag (cF 68 [g] V λah ai=>eR hH (Zg 114 ah 0) λaj=>bA .geq 3 aj I λak=>K4 ak ai) (K4 ff V)) (λal Y=>∀_:Env,
 cV al (U G Y) (lA 50 B Y λan=>cF 24 [g,an] Y λao ap=>xT ao 0 λaq=>xT ao 1 λar=>aL 56 ap λM au=>sA 56 M aq au λO=>bB .neq 31 ar (i 0) λaw=>
 cV aw (U G O) (fA 50 B 3 λax=>lA 41 ax O λay=>cF 83 [ay] O λaz a0=>fA 50 B 3 λa1=>sA 41 a1 az a0 λZ=>lA 50 B Z λa3=>bS 39 1 [(0,a3)] Z λa4 a5=>
 aP 39 G a4 a5 λa6 a7=>U a6 a7)))) (λW a8=>∀_:Env,
 bB .add 3 v (i 1) λa9=>K2 W a9 a8)) (lA 27 p4 x λba=>cF 40 [ba,qJ,I,G] x λJ bc=>xT J 0 λbd=>xT J 1 λ_=>xT J 2 λ_=>xT J 3 λ_=>
 aL 63 bc λE be=>sA 63 E bd be λbf=>lA 63 E (drew bf) λbg=>sA 63 b bg (drew bf) λbh=>lA 63 b bh λOv=>K (.tuple #[G,Ov,(i 0)]) bh)) λK2=>K2 (.slice none 0 0) (i 0) q)))
def P27:dI:=λi=>match i with
 | 17=>.run 0 5
 | _=>.nil
theorem als(p0 u E B:Value)(h:S27 w K p0 u E B):CR 27 [p0,u,E,B] w K:=
 qO 86 P27 1792 [.tmp 8,.cell 9 63,.tmp 10] Tryz.func27 h
theorem QY:PL 27:=dJ Tryz.func27
theorem azh:PL 28:=dJ Tryz.func28
end Go.Proofs.YtpdlpabnlkofmaaGreatDoor
namespace Go.Proofs.YtpdlpabnlkofmaaGreatDoor
open Go.Fw
def C27(K:hM)(p:cE)(pv:bP)(room c:Int)(lv:Value)(l:List aS)(w:World)(E:∀w',Ext w w'->K w')(hp:J3 K pv p)(hz:PZ p)(hl:Ig K lv l)(Bx:l.length<=1000)(J5:∀q∈l,q.cut.length<=1000) :
  CR 27 [ia pv,hZ room,hZ c,lv] w (λv w'=>∃(ov:Value) (ev:aI),v=.tuple #[ov,ia ev,hZ (fo p room c l).2.2]/\lg (eG λw=>DL w ov (fo p room c l).1/\mG w ev (fo p room c l).2.1) w w'):=by
 have u:=St.start w;refine als _ _ _ _ _ _ ?_;unfold S27;refine cI (x:=pv) u (λb4 _ u=>aM u gW λb9 _ u=>have u:=u.enc (cs':=j0 (⟨0,0,0,bX⟩:aI)) rfl;aD et u.p1.At (dQ aqQ (C12 K p pv room _ (λ_ e=>E _ (u.aG.then e)) hp hz) ?_));rintro v20 w3 (⟨h1,rfl,he⟩|⟨M,h1,rfl,he⟩|⟨M,hr,b,X,rfl,cL⟩)
 .have u:=u.ext he;refine aQ rfl (aQ rfl (bW (aC (λ_=>?_) λh=>absurd h1 h)));have e:eW p room c=fj p:=by unfold eW;rw[ew h1]
  refine pop ui (aJ (x:=(⟨0,0,0,bX⟩:aI)) u fc rfl rfl λw4 u=>aD (x:=(⟨0,0,0,bX⟩:aI)) fc u.At ?_);rw[vK (by rw[e];exact h1),e];exact⟨_,_,rfl,(u.drop.drop.fy (Φ:=λw=>DL w (.slice none 0 0) []/\mG w (⟨0,0,0,bX⟩:aI) zE) λw=>⟨DL.nil w,yZ w⟩).fresh⟩
 .have u:=u.ext he;refine aQ rfl (aQ rfl (bW (aC (λ_=>?_) λh=>absurd (by decide:(1:Int)≠0) h)));have e:eW p room c=1:=by unfold eW;rw[ej (by rw[M];decide),ew h1]
  refine pop ui (aJ (x:=(⟨0,0,0,bX⟩:aI)) u fc rfl rfl λw4 u=>aD (x:=(⟨0,0,0,bX⟩:aI)) fc u.At ?_);rw[vK (by rw[e];decide),e];exact⟨_,_,rfl,(u.drop.drop.fy (Φ:=λw=>DL w (.slice none 0 0) []/\mG w (⟨0,0,0,bX⟩:aI) zE) λw=>⟨DL.nil w,yZ w⟩).fresh⟩
 have yY:=vG M;have u:=(u.made cL).split;refine aQ rfl (aQ rfl (bW (aC (λh=>absurd rfl h) λ_=>?_)));refine⟨λjv w'=>jv=.bool (decide (c<0\/8<c))/\w'=w3,?_,?_⟩
 .exact aR (aC (λh=>⟨vb (ez (.inl h)).symm,rfl⟩) λ_=>cO ⟨vb (ga.2 cK),rfl⟩)
 rintro _ _ ⟨rfl,rfl⟩ _;refine aC (λh2=>?_) (λh2=>?_)
 .have e:eW p room c=1:=by unfold eW;rw[ej (by rw[M];decide),ej cK,ew h2]
  refine pop ui (aJ (x:=(⟨0,0,0,bX⟩:aI)) u.p2 fc rfl rfl λ_ u=>aD (x:=(⟨0,0,0,bX⟩:aI)) fc u.At ?_);rw[vK (by rw[e];decide),e];exact⟨_,_,rfl,(u.drop.drop.drop.drop.fy (Φ:=λw=>DL w (.slice none 0 0) []/\mG w (⟨0,0,0,bX⟩:aI) zE) λw=>⟨DL.nil w,yZ w⟩).fresh⟩
 have W:eW p room c=0:=by unfold eW;rw[ej (by rw[M];decide),ej cK,ej h2]
 obtain⟨ts,vI⟩:=hl;have hn:ts.length=l.length:=(vI _ (E _ u.aG)).2.1;refine aK fW (vI _ (E _ u.aG)).1 ?_
 refine⟨λmm o y w'=>∃(k:Nat) (m:gR) (out:List aS),y=hZ (k:Int)/\mm=ts.length-k/\k<=l.length/\out.length<=k/\wo p k m/\m.mem.dV=eT p/\(fM c (iS p room) l)=((fM c m (l.drop k)).1,out++(fM c m (l.drop k)).2)/\St w bD [fT o out,gn (λw=>K w/\X w) b m,eG X,bY b9 (j0 (⟨0,0,0,bX⟩:aI)),bY b4 (j0 pv)] w',
  ⟨_,0,iS p room,[],rfl,rfl,l1 _,o1 _,wo.new hz yY hr,rfl,rfl,St.G3 ((u.fy (Φ:=gM ([]:List aI) ([]:List aS)) λ_=>gM.nil).eM (α:=aI))⟩,?_⟩
 rintro mm ov _ w7 ⟨k,m,out,rfl,rfl,hk,ho,G,Db,B,u⟩ _;refine aR (aC (λc1=>?_) λc1=>?_);rotate_left
 .rw[F1 cK]at B;have B:(fM c (iS p room) l)=(m,out):=B.trans (by show(m,out++[])=_;rw[o6]);obtain⟨r1,r2⟩:=NW W l;rw[B]at r1 r2;obtain⟨F,u,hX⟩:=u.mV.MJ;have Vr:Ig (λw'=>K w'/\oB F w7 w') ov out:=(Ig.of hX).mono λ_ h=>h.2;have ae0:out.Sublist l:=by have:=va c l (iS p room);rw[B]at this;exact this
  refine aD et u.p4.At (dQ ay8 (C40 (λw'=>K w'/\oB F w7 w') p pv room c ov out _ (λ_ e=>⟨E _ (u.aG.then e),(u.ext e).eG⟩) (hp.mono λ_ h=>h.1) hz Vr cK λq O=>J5 q (ae0.subset O)) ?_);rintro _ w8 ⟨ev,ov2,rfl,cL⟩;have u:=(u.made cL).split;refine aQ rfl (aQ rfl (aQ rfl (aQ rfl (aM u gW λb18 w9 u=>aJ (x:=ev) u fc rfl rfl λw10 u=>have u:=u.drew;aD (x:=ev) fc u.At (aJ (x:=ev) u.p6 fc rfl rfl λw11 u=>aD (x:=ev) fc u.At ?_)))));rw[J6 W,B];have u:=u.drop.drop.p1.drop.gZ.p1.drop.p1.drop.p1.drop.dM (Ψ:=λw=>DL w ov out/\mG w ev (Cp m)) (λ_ h=>⟨hX _ h.2,by rw[<- r1];exact h.1⟩)
  exact⟨ov,ev,rfl,u.fresh⟩
 obtain⟨q,O⟩:=gx l (i:=k) cK;obtain⟨tq,Oc⟩:=gx ts (i:=((k:Nat):Int).toNat) cK;have V:∀w',K w'->mG w' tq q:=λw' h=>(vI w' h).2.2 k tq q Oc O;obtain⟨J,rfl,_⟩:=V _ (E _ u.aG)
 have U:∀w',K w'->dA (λ_=>True) w' (ia J) q.cut:=λw' h=>by
  obtain⟨gc2,e,h3⟩:=V w' h;cases e
  exact DL.flat h3
 have hqc:=J5 q (kO O);rw[Ih O]at B;have rn:=G.mb.mono (b:=1000000) cK;have CX:=G.cr;refine⟨λo' w'=>∃(Y:gR) (Vc:List aS),Vc.length<=k+1/\wo p (k+1) Y/\Y.mem.dV=eT p/\(fM c (iS p room) l)=((fM c Y (l.drop (k+1))).1,Vc++(fM c Y (l.drop (k+1))).2)/\St w bD [fT o' Vc,gn (λw=>K w/\X w) b Y,eG X,bY b9 (j0 (⟨0,0,0,bX⟩:aI)),bY b4 (j0 pv)] w',?_,?_⟩;rotate_left
 .rintro o2 w8 ⟨m2,alu,h1,h2,h3,h4,u⟩ vQ;exact aN cK ⟨ts.length-(k+1),cK,k+1,m2,alu,rfl,rfl,cK,h1,h2,h3,h4,u⟩
 refine aO fW (vI _ (E _ u.aG)).1 cK Oc (λq37 h37=>aD j6 h37 (aM u BL λb15 w8 u=>aJ (x:=(⟨q.kind,q.t,q.i,J⟩:aI)) u j6 rfl rfl λw9 u=>?_));refine⟨λjv w'=>jv=.bool (decide (q.kind=3/\c<=m.bZ))/\St w bD [bY b15 (j0 (⟨q.kind,q.t,q.i,J⟩:aI)),fT ov out,gn (λw=>K w/\X w) b m,eG X,bY b9 (j0 (⟨0,0,0,bX⟩:aI)),bY b4 (j0 pv)] w',?_,?_⟩
 .exact aA mU (aB (v:=hZ q.kind) bL u.hb rfl (aH (aC (λI=>aV aju u (C68 (λw=>K w/\X w) b m _ u.p2.has (λ_ e=>⟨E _ (u.aG.then e),(u.ext e).p3.eG⟩) G.ok) λ_ _ u=>pop (ahb (iR m)) (cR ⟨vb (ga.2 ⟨λh=>⟨I,h⟩,λh=>h.2⟩),u⟩)) λI=>⟨vb (fN λh=>I h.1).symm,u⟩)))
 rintro _ w10 ⟨rfl,u⟩ vQ;refine aC (λI=>?_) (λI=>?_)
 .rw[fM,ew I]at B;exact⟨m,out,cK,G.mono cK,Db,B,u.drop⟩
 rw[fM,ej I]at B;have F7:=G.step (q:=q) yY;have Z:=(QT G.ok q).trans Db;refine aD (x:=(⟨q.kind,q.t,q.i,J⟩:aI)) j6 u.At (bF aqO u.p2 (H':=λ_=>gn (λw=>K w/\X w) b (oL m q).1) (Φ:=λv _=>v=.tuple #[ia (oL m q).2.1,hZ (oL m q).2.2]) (λF2 eb dW=>?_) ?_)
 .exact C24 (λw=>K w/\X w) b m q J F2 _ eb (λw' hc=>⟨E _ (dW w' hc).aG,(dW w' hc).p2.eG⟩) G.ok (G.pr▸yY) rn cK (λw' hc=>U _ (E _ (dW w' hc).aG)) hqc
 rintro _ w11 rfl u;refine aQ rfl (aQ rfl (aM u mq λb16 _ u=>aJ (x:=(oL m q).2.1) u fm rfl rfl λ_ u=>bW (aC (λc3=>?_) λc3=>?_)))
 .rw[ew c3]at B;exact⟨_,out,cK,F7,Z,B,u.drop.p1.drop.p1⟩
 rw[ej c3]at B;have u:=u.drop.p1;refine aA l8 (aB (v:=ia (J:SV)) eg u.hb rfl (dT Ou u (C83 _ q.cut _ (U _ (E _ u.aG)) cK) λx67 _ cL u=>?_));obtain⟨sv,rfl⟩:=u.fI;exact aA l8 (aT u.p1 eg (dL rfl) rfl λ_ u=>have u:=u.enc (cs':=j0 (⟨q.kind,q.t,q.i,sv⟩:aI)) rfl;aD (x:=(⟨q.kind,q.t,q.i,sv⟩:aI)) j6 u.At (have u:=u.p1.freeze.dM (Ψ:=λw=>mG w (⟨q.kind,q.t,q.i,sv⟩:aI) q) (λ_ h=>⟨sv,rfl,DL.j1 h⟩);gg (x:=q) (s:=(⟨q.kind,q.t,q.i,sv⟩:aI)) u fW ee λ_ _ u=>gh u.p3 fW (by rw[mf];omega) ee λ_ _ u=>⟨_,out++[q],by rw[lY,mf];omega,F7,Z,by rw[B,n3];rfl,u.p1.drop⟩))
def C28(K Y:hM)(p:cE)(pv:bP)(room c:Int)(lv:Value)(ts:List aI)(l:List aS)(w:World)(G:∀w',Ext w w'->K w')(hp:J3 K pv p)(hz:PZ p)(hR:∀w,K w->dA (λ_=>True) w lv ts)(hD:∀w,Y w->gM ts l w)(hKK:∀w,K w->Y w)(Bx:l.length<=1000)(J5:∀q∈l,q.cut.length<=1000) :
  CR 28 [ia pv,hZ room,hZ c,lv] w (λv w'=>∃(ov:Value) (us:List aI) (ev:aI),v=.tuple #[ov,ia ev,hZ (fo p room c l).2.2]/\(∀w,Y w->gM us (fo p room c l).1 w)/\lg (sep (bH ov us) (eG λw=>mG w ev (fo p room c l).2.1)) w w'):=by
 have u:=St.start w;refine eX Tryz.func28 ?_;refine cI (x:=pv) u (λb4 w1 u=>aM u gW λb9 w2 u=>have u:=u.enc (cs':=j0 (⟨0,0,0,bX⟩:aI)) rfl;aD et u.p1.At (dQ ayo (C13 K p pv room _ (λ_ e=>G _ (u.aG.then e)) hp hz) ?_));rintro v20 w3 (⟨h1,rfl,he⟩|⟨W,h1,rfl,he⟩|⟨W,hr,b,rfl,cL⟩)
 .have u:=u.ext he;refine aQ rfl (aQ rfl (bW (aC (λ_=>?_) λh=>absurd h1 h)));have e:eW p room c=fj p:=by unfold eW;rw[ew h1]
  refine pop ui (aJ (x:=(⟨0,0,0,bX⟩:aI)) u fc rfl rfl λw4 u=>aD (x:=(⟨0,0,0,bX⟩:aI)) fc u.At ?_);rw[vK (by rw[e];exact h1),e];exact⟨_,[],_,rfl,λ_ _=>gM.nil,(St.join ((u.drop.drop.fy (Φ:=λw=>mG w (⟨0,0,0,bX⟩:aI) zE) yZ).eM (α:=aI))).fresh⟩
 .have u:=u.ext he;refine aQ rfl (aQ rfl (bW (aC (λ_=>?_) λh=>absurd (by decide:(1:Int)≠0) h)));have e:eW p room c=1:=by unfold eW;rw[ej (by rw[W];decide),ew h1]
  refine pop ui (aJ (x:=(⟨0,0,0,bX⟩:aI)) u fc rfl rfl λw4 u=>aD (x:=(⟨0,0,0,bX⟩:aI)) fc u.At ?_);rw[vK (by rw[e];decide),e];exact⟨_,[],_,rfl,λ_ _=>gM.nil,(St.join ((u.drop.drop.fy (Φ:=λw=>mG w (⟨0,0,0,bX⟩:aI) zE) yZ).eM (α:=aI))).fresh⟩
 have yY:=vG W;have u:=u.made cL;refine aQ rfl (aQ rfl (bW (aC (λh=>absurd rfl h) λ_=>?_)));refine⟨λjv w'=>jv=.bool (decide (c<0\/8<c))/\w'=w3,?_,?_⟩
 .exact aR (aC (λh=>⟨vb (ez (.inl h)).symm,rfl⟩) λ_=>cO ⟨vb (ga.2 cK),rfl⟩)
 rintro _ _ ⟨rfl,rfl⟩ _;refine aC (λh2=>?_) (λh2=>?_)
 .have e:eW p room c=1:=by unfold eW;rw[ej (by rw[W];decide),ej cK,ew h2]
  refine pop ui (aJ (x:=(⟨0,0,0,bX⟩:aI)) u.p1 fc rfl rfl λ_ u=>aD (x:=(⟨0,0,0,bX⟩:aI)) fc u.At ?_);rw[vK (by rw[e];decide),e];exact⟨_,[],_,rfl,λ_ _=>gM.nil,(St.join ((u.drop.drop.drop.fy (Φ:=λw=>mG w (⟨0,0,0,bX⟩:aI) zE) yZ).eM (α:=aI))).fresh⟩
 have hse:eW p room c=0:=by unfold eW;rw[ej (by rw[W];decide),ej cK,ej h2]
 have V:∀w,K w->dA (λ_=>True) w lv ts/\gM ts l w:=λw h=>⟨hR w h,hD w (hKK w h)⟩;have hn:ts.length=l.length:=(V _ (G _ u.aG)).2.1;refine aZ ([]:List aI) u fW rfl rfl (dL rfl) (λx34 _ u=>?_)
 refine⟨λmm o y w'=>∃(k:Nat) (m:gR) (out:List aS) (us:List aI),y=hZ (k:Int)/\mm=ts.length-k/\k<=l.length/\us.length<=k/\(∀w,Y w->gM us out w)/\sV p k m/\(fM c (iS p room) l)=((fM c m (l.drop k)).1,out++(fM c m (l.drop k)).2)/\St w bD [bH o us,qM K b m,bY b9 (j0 (⟨0,0,0,bX⟩:aI)),bY b4 (j0 pv)] w',
  ⟨_,0,iS p room,[],[],rfl,rfl,l1 _,o1 _,λ_ _=>gM.nil,sV.new hz yY hr,rfl,u⟩,?_⟩
 rintro mm ov _ w8 ⟨k,m,out,us,rfl,rfl,hk,ho,I,B,E,u⟩ _;have U:=B.go;have Db:=B.fi.trans (by rw[U.pr]:eT p=eT m.p);refine aK fW (V _ (G _ u.aG)).1 (aR (aC (λc1=>?_) λc1=>?_));rotate_left
 .rw[F1 cK]at E;have E:(fM c (iS p room) l)=(m,out):=E.trans (by show(m,out++[])=_;rw[o6]);refine dQ aza (C97 K b m _ u.p1.has (λ_ e=>G _ (u.aG.then e)) U.ok B.vo Db) ?_;rintro _ w9 ⟨e2,rfl,cL⟩;have u:=u.made cL;refine aJ (x:=e2) u.p3 fc rfl rfl (λ_ u=>aD (x:=e2) fc u.At ?_);rw[J6 hse,E];exact⟨ov,us,e2,rfl,I,(St.join u.drop.p2.drop.p2.drop.p1).fresh⟩
 obtain⟨q,hq⟩:=gx l (i:=k) cK;obtain⟨tq,Z⟩:=gx ts (i:=((k:Nat):Int).toNat) cK;have hqd:∀w',K w'->mG w' tq q:=λw' h=>(V w' h).2.2 k tq q Z hq;obtain⟨gc,rfl,_⟩:=hqd _ (G _ u.aG)
 have hgc:∀w',K w'->dA (λ_=>True) w' (ia gc) q.cut:=λw' h=>by
  obtain⟨gc2,e,h3⟩:=hqd w' h;cases e
  exact DL.flat h3
 have hqc:=J5 q (kO hq);rw[Ih hq]at E;have rn:=U.mb.mono (b:=1000000) cK;have CX:=U.cr;refine⟨λo' w'=>∃(m':gR) (Vc:List aS) (M:List aI),M.length<=k+1/\(∀w,Y w->gM M Vc w)/\sV p (k+1) m'/\(fM c (iS p room) l)=((fM c m' (l.drop (k+1))).1,Vc++(fM c m' (l.drop (k+1))).2)/\St w bD [bH o' M,qM K b m',bY b9 (j0 (⟨0,0,0,bX⟩:aI)),bY b4 (j0 pv)] w',?_,?_⟩;rotate_left
 .rintro o2 w9 ⟨m2,alu,us2,h1,h2,h3,h4,u⟩ vQ;exact aN cK ⟨ts.length-(k+1),cK,k+1,m2,alu,us2,rfl,rfl,cK,h1,h2,h3,h4,u⟩
 refine⟨λjv w'=>jv=.bool (decide (¬ (q.kind=3/\c<=m.bZ)))/\w'=w8,?_,?_⟩
 .refine aO fW (V _ (G _ u.aG)).1 cK Z (λq37 J=>bV q.kind mU J rfl rfl λr g=>aD (x:=q.kind) bL g (bW (aC (λO=>⟨vb (ez (p:=¬ (q.kind=3/\c<=m.bZ)) λh=>O h.1).symm,rfl⟩) λO=>?_)));obtain⟨a,hra⟩:=qM.rd u.p1.has;exact aE (aA Di (bM bL (hra.b.cell (o:=7) rfl) (aR ⟨vb (ga.2 cK),rfl⟩)))
 rintro _ w9 ⟨rfl,rfl⟩ vQ;refine aC (λO=>?_) (λO=>?_);rotate_left
 .rw[fM,ew (u1.1 O)]at E;exact⟨m,out,us,cK,I,B.mono cK,E,u⟩
 rw[fM,ej O]at E;refine aO fW (V _ (G _ u.aG)).1 cK Z (λq37 J=>aD j6 J (bF ays u.p1 (H':=λ_=>qM K b (oL m q).1) (Φ:=λv _=>v=.tuple #[ia (oL m q).2.1,hZ (oL m q).2.2]) (λF2 eb dW=>?_) ?_))
 .exact C25 K b m q gc F2 _ eb (λw' hc=>G _ (dW w' hc).aG) U.ok B.vo (U.pr▸yY) rn cK Db (λw1 hc _ e=>G _ ((dW w1 hc).aG.then e)) (λw' hc=>hgc _ (G _ (dW w' hc).aG)) hqc
 rintro _ _ rfl u;refine aQ rfl (aQ rfl (aM u mq λb16 _ u=>aJ (x:=(oL m q).2.1) u fm rfl rfl λ_ u=>have u:=u.drop.p1;aH (aC (λc3=>?_) λc3=>?_)));rotate_left
 .rw[ew c3]at E;exact⟨_,out,us,cK,I,B.step yY,E,u⟩
 rw[ej (by rw[c3];decide)]at E;refine aO fW (V _ (G _ u.aG)).1 cK Z (λq38 h38=>aD j6 h38 (aZ [(⟨q.kind,q.t,q.i,gc⟩:aI)] u fW rfl rfl (dL rfl) λs64 _ u=>?_));have alj:=u.dX;exact bJ u.p1 fW alj (by rw[mf];omega) ee (λ_ _ u=>⟨_,out++[q],us++[(⟨q.kind,q.t,q.i,gc⟩:aI)],by rw[lY,mf];omega,λw h=>(I w h).snoc ((hD w h).2 k _ q Z hq),B.step yY,by rw[E,n3];rfl,u.p1.drop⟩)
variable (w:World) (K:Value->hM)
def P35:dI:=λi=>match i with
 | 15=>.run 0 5
 | _=>.nil
def azj:dI:=λi=>match i with
 | 1=>(.op 0 [] (.op 1 [] (.op 2 [] (.op 3 [] (.op 4 [] (.alt 5 [0,1,2] (.alt 6 [] (.of [(7,[]),(8,[]),(9,[]),(10,[]),(11,[0,1,2,3]),(12,[]),(13,[]),(14,[])]) (.alt 11 [0,1,2,3] (.of [(6,[]),(7,[]),(8,[]),(9,[]),(10,[]),(12,[]),(13,[]),(14,[])]) .stop)) (.alt 11 [0,1,2,3] (.of [(5,[0,1,2]),(6,[]),(7,[]),(8,[]),(9,[]),(10,[]),(12,[]),(13,[]),(14,[])]) .stop)))))))
 | 4=>(.of [(0,[]),(1,[]),(2,[1]),(3,[])])
 | _=>.nil
theorem ae1:PL 35:=dJ Tryz.func35
theorem asj:PL 100:=dJ Tryz.func100
end Go.Proofs.YtpdlpabnlkofmaaGreatDoor
namespace Go.Proofs.YtpdlpabnlkofmaaGreatDoor
open Go.Fw
theorem aa4{p:cE}{room c:Int}{l:List aS}(h:(fo p room c l).2.2≠0):pY p room c l=([],zE,(fo p room c l).2.2):=by unfold pY;rw[ew h]
theorem aa5{p:cE}{room c:Int}{l:List aS}(h:(fo p room c l).2.2=0)(h2:(fo p room c l).1.length≠l.length\/QV (fo p room c l).2.1=false):pY p room c l=([],zE,13):=by unfold pY;rw[ej (by rw[h];decide),ew h2]
theorem aa6{p:cE}{room c:Int}{l:List aS}(h:(fo p room c l).2.2=0)(h2:¬ ((fo p room c l).1.length≠l.length\/QV (fo p room c l).2.1=false)):pY p room c l=((vM (jb p room c) (fo p room c l).1 (fo p room c l).2.1).1,(vM (jb p room c) (fo p room c l).1 (fo p room c l).2.1).2,0):=by unfold pY;rw[ej (by rw[h];decide),ej h2];rfl
theorem sX(p:cE)(room c:Int)(s:List aS):(jb p room c s).1.length<=s.length:=Ii
def Od(bs be:Nat)(s:List aS)(e:aS):HP:=pH λsv:SV=>pH λev:aI=>sep (bY bs [ia sv]) (sep (bY be (j0 ev)) (eG λw=>DL w (ia sv) s/\mG w ev e))
section
variable {w0 w:World}{A:Nat->Prop}{L:List HP}{bs be:Nat}{s:List aS}{e:aS}
theorem Od.open(u:St w0 A (Od bs be s e::L) w):∃(sv:SV) (ev:aI),St w0 A (bY bs [ia sv]::bY be (j0 ev)::Fw.eG (λw=>DL w (ia sv) s/\mG w ev e)::L) w:=by
 obtain⟨sv,u⟩:=u.eh
 obtain⟨ev,u⟩:=u.eh
 have u:=u.split.p1.split
 exact⟨sv,ev,u.p2⟩
theorem Od.shut{sv:SV}{ev:aI}(u:St w0 A (bY bs [ia sv]::bY be (j0 ev)::Fw.eG (λw=>DL w (ia sv) s/\mG w ev e)::L) w):St w0 A (Od bs be s e::L) w:=by
 have u:=St.join u.p2.p2
 have u:=St.join u.p1
 exact St.ek sv (St.ek ev u)
end
def C100(K:hM)(p:cE)(pv:bP)(room c:Int)(bp br bc bs be k:Nat)(s:List aS)(e:aS)(F:Nat->Prop)(w:World)(hF:(Od bs be s e).p w F)(I:∀w',gu F w w'->mR w' bp (j0 pv))(G:∀w',gu F w w'->mR w' br [hZ room])(E:∀w',gu F w w'->mR w' bc [hZ c])(W:∀w1,gu F w w1->∀w2,Ext w1 w2->K w2)(hp:J3 K pv p)(hz:PZ p)(Bx:s.length<=1000)(J5:∀q∈s,q.cut.length<=1000) :
  CR 100 [hZ (k:Int),.pointer (some ⟨bp,0,none⟩),.pointer (some ⟨br,0,none⟩),.pointer (some ⟨bc,0,none⟩),.pointer (some ⟨bs,0,none⟩),.pointer (some ⟨be,0,none⟩)] w (λv w'=>v=.bool (nq ((jb p room c) (qX s (k:Int))).2 e)/\mP F (Od bs be (if nq ((jb p room c) (qX s (k:Int))).2 e=true then((jb p room c) (qX s (k:Int))).1 else s) (if nq ((jb p room c) (qX s (k:Int))).2 e=true then((jb p room c) (qX s (k:Int))).2 else e)) w w'):=by
 obtain⟨sv,ev,u⟩:=Od.open (St.begin hF);refine oH Tryz.func100 (pl:=azj) ?_;obtain⟨M,u,hX⟩:=u.p2.MJ;obtain⟨J,Z⟩:∃J,J=w:=⟨_,rfl⟩;rw[show oB M w=oB M J by rw[Z]]at u;rw[<- Z]at hX;obtain⟨ts,Y⟩:Ig (oB M J) (ia sv) s:=Ig.of λw' h=>(hX w' h).1;have hn:ts.length=s.length:=(Y _ u.eG).2.1;refine⟨λtv xv w'=>∃(O:Nat) (ov:Value) (B:aI),tv=ov/\xv=.pointer (some ⟨O,0,none⟩)/\St w F [bY O (j0 B),eG (λw=>DL w ov ((jb p room c) (qX s (k:Int))).1/\mG w B ((jb p room c) (qX s (k:Int))).2),eG (oB M J),bY bs [ia sv],bY be (j0 ev)] w',?_,?_⟩
 .have u:=u.drew;refine qg pv et (I _ u.aG) rfl (bM bL ((G _ u.aG).cell (o:=0) rfl) (bM bL ((E _ u.aG).cell (o:=0) rfl) (aB (v:=ia sv) II u.p1.hb rfl ⟨dT QW u (C30 (oB M J) _ ts (k:Int) _ (λ_ e=>(u.ext e).eG) (λw h=>(Y w h).1) cK) (λU _ V u=>⟨jx pv et (I _ u.aG) rfl,⟨aF bL ((G _ u.aG).cell (o:=0) rfl),⟨aF bL ((E _ u.aG).cell (o:=0) rfl),⟨?_,?_,trivial⟩⟩⟩⟩),?_,trivial⟩)))
  .refine dQ QY (C27 (λw'=>K w'/\(oB M J) w'/\((oB M J) w'->dA (λ_=>True) w' U (qX ts (k:Int)))) p pv room c U (qX s (k:Int)) _ (λ_ e=>⟨W _ u.aG _ e,(u.ext e).p1.eG,(u.ext e).eG⟩) (hp.mono λ_ h=>h.1) hz ⟨_,λw' h=>⟨h.2.2 h.2.1,F5 (Y w' h.2.1).2⟩⟩ (by have:=yq s (k:Int);omega) λq hq=>J5 q (DP hq)) ?_;rintro _ _ ⟨ov,B,rfl,V⟩;have u:=u.made V;refine aQ rfl (aQ rfl (aQ rfl (aM u gW λO _ u=>?_)));refine⟨jx pv et (I _ u.aG) rfl,?_⟩;refine⟨aF bL ((G _ u.aG).cell (o:=0) rfl),?_⟩;refine⟨aF bL ((E _ u.aG).cell (o:=0) rfl),?_⟩
   refine⟨aF II (u.p4.hb.cell rfl),?_⟩;exact aJ (x:=B) u fc rfl rfl (λ_ u=>have u:=u.p2.drop.p4.p4.p4.p4.p4;⟨O,ov,B,rfl,rfl,u⟩)
  .refine aM u gW (λO _ u=>?_);refine⟨jx pv et (I _ u.aG) rfl,?_⟩;refine⟨aF bL ((G _ u.aG).cell (o:=0) rfl),?_⟩;refine⟨aF bL ((E _ u.aG).cell (o:=0) rfl),?_⟩;refine⟨aF II (u.p3.hb.cell rfl),?_⟩;refine dQ QY (C27 (λw'=>K w'/\(oB M J) w'/\((oB M J) w'->dA (λ_=>True) w' U (qX ts (k:Int)))) p pv room c U (qX s (k:Int)) _ (λ_ e=>⟨W _ u.aG _ e,(u.ext e).p2.eG,(u.ext e).p1.eG⟩) (hp.mono λ_ h=>h.1) hz ⟨_,λw' h=>⟨h.2.2 h.2.1,F5 (Y w' h.2.1).2⟩⟩ (by have:=yq s (k:Int);omega) λq hq=>J5 q (DP hq)) ?_;rintro _ _ ⟨ov,B,rfl,V⟩;have u:=u.made V
   exact aQ rfl (aQ rfl (aQ rfl (aJ (x:=B) u.p1 fc rfl rfl λ_ u=>have u:=u.p2.drop.p4.p4.p4.p4.p4;⟨O,ov,B,rfl,rfl,u⟩)))
  refine aM u gW (λO _ u=>?_);refine⟨jx pv et (I _ u.aG) rfl,?_⟩;refine⟨aF bL ((G _ u.aG).cell (o:=0) rfl),?_⟩;refine⟨aF bL ((E _ u.aG).cell (o:=0) rfl),?_⟩;refine⟨aF II (u.p2.hb.cell rfl),?_⟩;refine dT QW u (C30 (oB M J) _ ts (k:Int) _ (λ_ e=>(u.ext e).p1.eG) (λw h=>(Y w h).1) cK) (λU _ V u=>?_);refine⟨jx pv et (I _ u.aG) rfl,?_⟩;refine⟨aF bL ((G _ u.aG).cell (o:=0) rfl),?_⟩;refine⟨aF bL ((E _ u.aG).cell (o:=0) rfl),?_⟩;refine dQ QY (C27 (λw'=>K w'/\(oB M J) w'/\((oB M J) w'->dA (λ_=>True) w' U (qX ts (k:Int)))) p pv room c U (qX s (k:Int)) _ (λ_ e=>⟨W _ u.aG _ e,(u.ext e).p2.eG,(u.ext e).eG⟩) (hp.mono λ_ h=>h.1) hz ⟨_,λw' h=>⟨h.2.2 h.2.1,F5 (Y w' h.2.1).2⟩⟩ (by have:=yq s (k:Int);omega) λq hq=>J5 q (DP hq)) ?_
  rintro _ _ ⟨ov,B,rfl,V⟩;have u:=u.made V;exact aQ rfl (aQ rfl (aQ rfl (aJ (x:=B) u.p2 fc rfl rfl λ_ u=>have u:=u.p2.drop.p4.p4.p4.p4.p4;⟨O,ov,B,rfl,rfl,u⟩)))
 rintro _ _ _ ⟨O,ov,B,rfl,rfl,u⟩ _;obtain⟨VP,Vy⟩:=u.p1.eG;have hev:=(hX _ u.p2.eG).2;refine aD (x:=B) fc u.At (aD (x:=ev) fc u.p4.At (aV Va u (C32 _ B e ev _ Vy hev) λ_ he u=>bR (aY (λc1=>?_) λc1=>?_)))
 .have c2:nq ((jb p room c) (qX s (k:Int))).2 e=false:=by simpa using c1
  rw[c2];have u:=u.drop.drop.dM hX;exact⟨rfl,(Od.shut u.p1.p2.p1).mut⟩
 have c2:nq ((jb p room c) (qX s (k:Int))).2 e=true:=by simpa using c1
 rw[c2];obtain⟨tw,hrw,_⟩:=VP.open;obtain⟨oa,oc,rfl,_⟩:=id hrw;have u:=u.drew;refine aD (x:=B) fc u.At (aT u.p3 II (dL rfl) rfl λ_ u=>?_);refine⟨eH fc u.p1.At,?_⟩;exact aJ (x:=B) u.p4 fc rfl rfl (λ_ u=>have u:=u.p2.drop.p3.drop;⟨rfl,(Od.shut (sv:=⟨oa,tw.length,oc⟩) u.p1).mut⟩)
theorem C35(K:hM)(p:cE)(pv:bP)(room c:Int)(lv:Value)(l:List aS)(w:World)(hw:∀w',Ext w w'->K w')(hp:J3 K pv p)(hz:PZ p)(hl:Ig K lv l)(Bx:l.length<=1000)(J5:∀q∈l,q.cut.length<=1000) :
  CR 35 [ia pv,hZ room,hZ c,lv] w (λv w'=>∃(ov:Value) (ev:aI),v=.tuple #[ov,ia ev,hZ (pY p room c l).2.2]/\lg (eG λw=>DL w ov (pY p room c l).1/\mG w ev (pY p room c l).2.1) w w'):=by
 have u:=St.start w;refine oH Tryz.func35 (pl:=P35) ?_;refine cI (x:=pv) u (λb4 w1 u=>cI (x:=room) u λW w2 u=>cI (x:=c) u λb6 _ u=>aM u gW λb9 _ u=>have u:=u.enc (cs':=j0 (⟨0,0,0,bX⟩:aI)) rfl;aD et u.p3.At (aB (v:=hZ room) bL u.p2.hb rfl (aB (v:=hZ c) bL u.p1.hb rfl (dQ QY (C27 K p pv room c lv l _ (λ_ e=>hw _ (u.aG.then e)) hp hz hl Bx J5) ?_))));rintro _ _ ⟨ov,ev,rfl,cL⟩;have u:=u.made cL;refine aQ rfl (aQ rfl (aQ rfl ?_));obtain⟨VP,Vy⟩:=u.eG;obtain⟨t1,BG,_⟩:=VP.open;obtain⟨oa,oc,rfl,_⟩:=id BG
 refine gB u ahC rfl (λG _ u=>aM u gW λI _ u=>aT u.p1 II (dL rfl) rfl λ_ u=>aJ (x:=ev) u.p1 fc rfl rfl λ_ u=>bW (aC (λc1=>?_) λc1=>?_))
 .refine pop ui (aJ (x:=(⟨0,0,0,bX⟩:aI)) u.p3 fc rfl rfl λw10 u=>aD (x:=(⟨0,0,0,bX⟩:aI)) fc u.At ?_);rw[aa4 c1];exact⟨_,_,rfl,(u.drop.drop.drop.drop.drop.drop.drop.fy (Φ:=λw=>DL w (.slice none 0 0) []/\mG w (⟨0,0,0,bX⟩:aI) zE) λw=>⟨DL.nil w,yZ w⟩).fresh⟩
 have c0:(fo p room c l).2.2=0:=u1.1 c1;obtain⟨VP,Vy⟩:=u.p2.eG;obtain⟨t2,Dh,azk⟩:=VP.open;have Dg:t2.length=(fo p room c l).1.length:=azk.1;refine⟨λjv w'=>jv=.bool (decide ((fo p room c l).1.length≠l.length\/QV (fo p room c l).2.1=false))/\St w bD [bY I (j0 ev),bY G [ia (⟨oa,t1.length,oc⟩:SV)],eG (λw=>DL w (.slice oa t1.length oc) (fo p room c l).1/\mG w ev (fo p room c l).2.1),bY b9 (j0 (⟨0,0,0,bX⟩:aI)),bY b6 (j0 c),bY W (j0 room),bY b4 (j0 pv)] w',?_,?_⟩
 .refine aB (v:=.slice oa t1.length oc) II u.p1.hb rfl (aK fW Dh ?_);obtain⟨ts,vI⟩:=hl;have hn:ts.length=l.length:=(vI _ (hw _ u.aG)).2.1;refine aK fW (vI _ (hw _ u.aG)).1 (bW (aC (λ_=>⟨vb (ez (.inl cK)).symm,u⟩) λc2=>aD (x:=ev) fc u.At (aV azb u (C99 _ ev _ Vy) λw10 he u=>bR ?_)));refine⟨vb ?_,u⟩;cases hb:QV (fo p room c l).2.1 with
  | true=>exact(fN λh=>h.elim (λh=>h cK) λh=>by cases h).symm
  | false=>exact(ez (.inr rfl)).symm
 rintro _ _ ⟨rfl,u⟩ _;refine aC (λc2=>?_) (λc2=>?_)
 .refine pop ui (aJ (x:=(⟨0,0,0,bX⟩:aI)) u.p3 fc rfl rfl λ_ u=>aD (x:=(⟨0,0,0,bX⟩:aI)) fc u.At ?_);rw[aa5 c0 c2];exact⟨_,_,rfl,(u.drop.drop.drop.drop.drop.drop.drop.fy (Φ:=λw=>DL w (.slice none 0 0) []/\mG w (⟨0,0,0,bX⟩:aI) zE) λw=>⟨DL.nil w,yZ w⟩).fresh⟩
 have hls:=Od.shut (sv:=⟨oa,t1.length,oc⟩) u.p1
 refine⟨λmm y w'=>∃(s:List aS) (e:aS) (ch:Bool),y=.bool ch/\mm=2*s.length+(if ch=true then 1 else 0)/\(s.length<=l.length/\(∀q∈s,q∈l)/\vM (jb p room c) (fo p room c l).1 (fo p room c l).2.1=(if ch=true then vM (jb p room c) s e else(s,e)))/\St w bD [Od G I s e,bY b9 (j0 (⟨0,0,0,bX⟩:aI)),bY b6 (j0 c),bY W (j0 room),bY b4 (j0 pv)] w',
  ⟨_,(fo p room c l).1,(fo p room c l).2.1,true,rfl,rfl,⟨Ii,λ_ hq=>yo.subset hq,rfl⟩,hls⟩,?_⟩
 clear u hls
 rintro mm _ _ ⟨s,e,ch,rfl,rfl,⟨RQ,hsm,nN⟩,u⟩ _;refine aY (λc3=>?_) (λc3=>?_)
 .rw[ew c3]at nN;refine⟨λnn y1 y2 w'=>∃(k:Nat) (B:List aS) (M:aS) (E:Bool),y1=.bool E/\y2=hZ (k:Int)/\nn=B.length-k/\(B.length<=l.length/\(∀q∈B,q∈l)/\k<=1000/\nd (jb p room c) s e 0 false=nd (jb p room c) B M k E)/\St w bD [Od G I B M,bY b9 (j0 (⟨0,0,0,bX⟩:aI)),bY b6 (j0 c),bY W (j0 room),bY b4 (j0 pv)] w',⟨_,0,s,e,false,rfl,rfl,rfl,⟨RQ,hsm,l1 _,rfl⟩,u⟩,?_⟩
  clear u
  rintro nn _ _ _ ⟨k,B,M,E,rfl,rfl,rfl,⟨Z,O,hk,V⟩,u⟩ _;obtain⟨sv,J,u⟩:=Od.open u;obtain⟨hd3,hd4⟩:=u.p2.eG;obtain⟨t3,Ng,azl⟩:=hd3.open;have hl3:t3.length=B.length:=azl.1;refine aB (v:=ia sv) II u.hb rfl (aK fW Ng (have u:=Od.shut u;aR (aC (λc4=>?_) λc4=>?_)))
  .have BQ:k<B.length:=cK
   have Y:qX B (k:Int)=B.eraseIdx k:=aa2 BQ;refine AS (first:=[]) (cap:=[.pointer (some ⟨b4,0,none⟩),.pointer (some ⟨W,0,none⟩),.pointer (some ⟨b6,0,none⟩),.pointer (some ⟨G,0,none⟩),.pointer (some ⟨I,0,none⟩)]) (H':=λ_=>Od G I (if nq ((jb p room c) (qX B (k:Int))).2 M=true then((jb p room c) (qX B (k:Int))).1 else B) (if nq ((jb p room c) (qX B (k:Int))).2 M=true then((jb p room c) (qX B (k:Int))).2 else M)) (Φ:=λv _=>v=.bool (nq ((jb p room c) (qX B (k:Int))).2 M)) asj u (λF hF dW=>?_) ?_
   .exact C100 K p pv room c b4 W b6 G I k B M F _ hF (λw' hc=>(dW w' hc).p3.hb) (λw' hc=>(dW w' hc).p2.hb) (λw' hc=>(dW w' hc).p1.hb) (λw1 hc _ e=>hw _ ((dW w1 hc).aG.then e)) hp hz cK (λq hq=>J5 q (O q hq))
   rintro _ _ rfl u;refine aY (λU=>?_) (λU=>?_)
   .rw[ew U,ew U]at u;have Hb:=sX p room c (qX B (k:Int));have YN:=yp BQ;rw[Y]at u U Hb;refine⟨_,?_,k,((jb p room c) (B.eraseIdx k)).1,((jb p room c) (B.eraseIdx k)).2,true,rfl,rfl,rfl,⟨cK,λq hq=>O q (L7 ((yo (l:=B.eraseIdx k)).subset hq)),hk,V.trans (Ij (sX p room c) BQ U)⟩,u⟩;omega
   rw[ej (by rw[U];decide),ej (by rw[U];decide)]at u;rw[Y]at U;refine aN cK ?_;refine⟨_,?_,k+1,B,M,E,rfl,rfl,rfl,⟨Z,O,cK,V.trans (NX (sX p room c) BQ (by rw[U];decide))⟩,u⟩;omega
  rw[Cq (D:=(jb p room c)) (s:=B) (e:=M) (k:=k) (ch:=E) cK]at V;have oG:=vc (sX p room c) (s.length+1) s e 0 false cK;rw[V]at oG;refine⟨_,?_,B,M,E,rfl,rfl,⟨Z,O,?_⟩,u⟩
  .rw[ew c3];cases E with
   | true=>have:=oG.2 rfl rfl;show 2*B.length+1<_;dsimp only at this;omega
   | false=>have:=oG.1;show 2*B.length+0<_;dsimp only at this;omega
  rw[nN];cases E with
  | true=>rw[ew rfl,Vb (sX p room c) (by rw[V]),V]
  | false=>rw[ej ee,QX (by rw[V]),V]
 rw[ej (by rw[c3];decide)]at nN;obtain⟨sv,J,u⟩:=Od.open u;have u:=u.drew;refine aB (v:=ia sv) II u.hb rfl (aD (x:=J) fc u.p1.At (aJ (x:=J) u.p3 fc rfl rfl λ_ u=>aD (x:=J) fc u.At ?_));rw[aa6 c0 c2,nN];have u:=u.drop.drop.drop;exact⟨_,J,rfl,u.p1.drop.p1.drop.p1.drop.fresh⟩
def Tj(u:Int):pr hH (l2 50 [(0,hZ u)].toArray)=some (.agg [hZ u,hZ 0,hZ 0,.slice none 0 0].toArray):=by kernel_rfl
def NZ(E:Int)(I:Int)(G:Option Addr)(B u:Nat):pr hH (l2 63 [(0,hZ E),(1,hZ I),(3,.slice G B u)].toArray)=some (.agg [hZ E,hZ I,hZ 0,.slice G B u].toArray):=by kernel_rfl
def ae4(B:Option Addr)(u E:Nat):pr hH (l2 63 [(3,.slice B u E)].toArray)=some (.agg [hZ 0,hZ 0,hZ 0,.slice B u E].toArray):=by kernel_rfl
section
variable {α σ:Type}[Flat σ] [Deep α σ] {w:World}
theorem fV{t:σ}{x:α}{ts:List σ}{xs:List α}(h:mG w t x)(g:gM ts xs w):gM (t::ts) (x::xs) w:=by
 grind[gM]
end
def qY(w:World)(a b c:Int):mG w (⟨a,b,c,bX⟩:aI) (⟨a,b,c,[]⟩:aS):=⟨_,rfl,DL.nil w⟩
theorem e0(w:World){sv:SV}(a b c:Int){l:List Int}(h:dA (λ_=>True) w (ia sv) l):mG w (⟨a,b,c,sv⟩:aI) (⟨a,b,c,l⟩:aS):=⟨_,rfl,DL.j1 h⟩
def ahg(t:ByteArray):Bool:=match vY t with
 | some r=>decide (r.1.length<=5000)&&r.1.all (λx=>decide (0<=x.at_/\x.at_<=1000000/\x.text.size<=1000000))
 | none=>false
def ae5{t:ByteArray}(h:ahg t=true):∀l e a,vY t=some (l,e,a)->jk l:=by
 intro l e a B
 unfold ahg at h
 rw[B]at h
 simp only[Bool.and_eq_true,decide_eq_true_eq,List.all_eq_true]at h
 exact⟨h.1,λx u=>h.2 x u⟩
variable (w:World) (K:Value->hM)
def S34:Prop:=
 cF 65 [(Go.Value.string (kp (#[108,105,110,101,32,97,59,32,116,104,114,101,97,100,32,116,32,123,32,115,116,111,114,101,32,97,32,61,32,49,59,32,99,104,101,99,107,32,48,59,32,125,32,116,104,114,101,97,100,32,117,32,123,32,109,102,101,110,99,101,59,32,125])))] w λa b=>
 xT a 0 λc=>xT a 1 λ_=>xT a 2 λ_=>aL 27 b λp1 d=>sA 27 p1 c d λe=>eR hH (l2 50 [(0,(i 1))].toArray) λf=>eR hH (l2 50 [(0,(i 1)),(1,(i 1))].toArray) λg=>
 eR hH (l2 50 [(0,(i 2))].toArray) λh=>aL 50 e λE j=>aL 50 j λJ k=>aL 50 k λG l=>sA 50 E f l λn=>sA 50 J g n λo=>sA 50 G h o λp=>
 lA 50 J p λq=>lA 50 E p λr=>lA 50 G p λs=>lA 50 E p λt=>bS 39 4 [(0,q),(1,r),(2,s),(3,t)] p λu v=>lA 27 p1 v λx=>cF 35 [x,(i 2),(i 0),u] v λy z=>
 xT y 0 λaa=>xT y 1 λab=>xT y 2 λac=>aL 63 z λO ae=>sA 63 O ab ae λM=>lA 27 p1 M λag=>lA 50 G M λah=>lA 50 E M λai=>lA 50 G M λaj=>
 lA 50 J M λak=>lA 50 J M λal=>bS 39 5 [(0,ah),(1,ai),(2,aj),(3,ak),(4,al)] M λam an=>cF 27 [ag,(i 2),(i 0),am] an λao ap=>xT ao 0 λaq=>
 xT ao 1 λar=>xT ao 2 λasx=>aL 63 ap λV au=>sA 63 V ar au λav=>fe (λK1=>lA 27 p1 (drew av) λaw=>eR hH (n4 39 u none (some (i 1)) none) λax=>
 ((cF 35 [aw,(i 2),(i 0),ax] (drew av) λay az=>xT ay 0 λ_=>xT ay 1 λa0=>xT ay 2 λa1=>aL 63 az λa2 a3=>kA 27 p1 aw a3 (sA 63 a2 a0 a3 λa4=>K1 a1 a4))
 /\((aL 63 (drew av) λa5 a6=>kA 27 p1 aw a6 (cF 35 [aw,(i 2),(i 0),ax] a6 λa7 a8=>xT a7 0 λ_=>xT a7 1 λa9=>xT a7 2 λba=>sA 63 a5 a9 a8 λbb=>K1 ba bb))
 /\
 True))) (λg16 U=>∀_:Env,
 lA 27 p1 U λbd=>lA 50 G U λbe=>lA 50 E U λbf=>lA 50 E U λbg=>bS 39 3 [(0,be),(1,bf),(2,bg)] U λbh bi=>cF 35 [bd,(i 2),(i 0),bh] bi λbj bk=>
 xT bj 0 λ_=>xT bj 1 λbl=>xT bj 2 λbm=>aL 63 bk λbn bo=>sA 63 bn bl bo λbp=>lA 27 p1 bp λbq=>cF 27 [bq,(i 2),(i 9),(.slice none 0 0)] bp λbr bs=>xT br 0 λ_=>
 xT br 1 λbt=>xT br 2 λbu=>aL 63 bs λbv bw=>sA 63 bv bt bw λbx=>fe (λK2=>lA 50 E (drew bx) λbz=>lA 50 E (drew bx) λb0=>bS 39 2 [(0,bz),(1,b0)] (drew bx) λb1 b2=>
 cF 19 [aa,b1] b2 λb3 b4=>cV b3 (lA 63 O b4 λb5=>bS 41 1 [(0,(i 0))] b4 λb6 b7=>kA 63 O b5 b7 (eR hH (l2 63 [(0,(i 3)),(1,(i 1)),(3,b6)].toArray) λb8=>
 cF 29 [b5,b8] b7 λb9 I=>cV b9 (bB .eql 31 ac (i 0) λcb=>cV cb (lA 50 E I λcc=>lA 50 G I λcd=>lA 50 J I λce=>bS 39 3 [(0,cc),(1,cd),(2,ce)] I λcf cg=>
 cF 19 [aq,cf] cg λch Z=>cV ch (lA 63 V Z λcj=>bS 41 1 [(0,(i 1))] Z λck cl=>kA 63 V cj cl (eR hH (l2 63 [(3,ck)].toArray) λcm=>cF 29 [cj,cm] cl λcn B=>
 cV cn (bB .eql 31 asx (i 0) λcp=>cV cp (bB .eql 31 g16 (i 13) λcq=>cV cq (bB .eql 31 bm (i 13) λcr=>cV cr (bB .eql 31 bu (i 1) λcs=>cV cs (lA 50 J B λct=>
 lA 50 G B λcu=>lA 50 E B λcv=>((cF 30 [u,(i 1)] B λcw cx=>kA 50 J ct cx (kA 50 G cu cx (kA 50 E cv cx (bS 39 3 [(0,ct),(1,cu),(2,cv)] cx λcy cz=>
 cF 19 [cw,cy] cz λc0 c1=>cV c0 (cF 30 [u,(i 4)] c1 λc2 c3=>cF 19 [c2,u] c3 λc4 c5=>cV c4 (lA 63 O c5 λc6=>eR hH (l2 63 [(0,(i 3)),(1,(i 1))].toArray) λc7=>
 cF 32 [c6,c7] c5 λc8 c9=>cV c8 (lA 63 O c9 λda=>lA 63 V c9 λdb=>cF 32 [da,db] c9 λdc dd=>eR hH (Op.unary .not dc) λde=>K2 de dd) (K2 ff c9)) (K2 ff c5)) (
 K2 ff c1)))))
 /\((bS 39 3 [(0,ct),(1,cu),(2,cv)] B λdf dg=>cF 30 [u,(i 1)] dg λdh W=>kA 50 J ct W (kA 50 G cu W (kA 50 E cv W (cF 19 [dh,df] W λdj dk=>cV dj (
 cF 30 [u,(i 4)] dk λdl dm=>cF 19 [dl,u] dm λdn dp=>cV dn (lA 63 O dp λdq=>eR hH (l2 63 [(0,(i 3)),(1,(i 1))].toArray) λdr=>cF 32 [dq,dr] dp λds Y=>
 cV ds (lA 63 O Y λdu=>lA 63 V Y λdv=>cF 32 [du,dv] Y λdw dx=>eR hH (Op.unary .not dw) λdy=>K2 dy dx) (K2 ff Y)) (K2 ff dp)) (K2 ff dk)))))
 /\
 True))) ((K2 ff B)
 /\((K2 ff B)
 /\
 True))) ((K2 ff B)
 /\((K2 ff B)
 /\
 True))) ((K2 ff B)
 /\((K2 ff B)
 /\
 True))) ((K2 ff B)
 /\((K2 ff B)
 /\
 True))) ((K2 ff B)
 /\((K2 ff B)
 /\
 True)))) ((K2 ff Z)
 /\((K2 ff Z)
 /\
 True))) ((K2 ff I)
 /\((K2 ff I)
 /\
 True))) ((K2 ff I)
 /\((K2 ff I)
 /\
 True)))) ((K2 ff b4)
 /\((K2 ff b4)
 /\
 True))) (λdz d0=>∀_:Env,
 K dz d0))
def P34:dI:=λi=>match i with
 | 6=>(.op 0 [] (.op 1 [] (.op 2 [] (.alt 3 [] (.of [(4,[]),(5,[]),(6,[]),(7,[]),(8,[0]),(9,[]),(10,[]),(11,[])]) (.alt 8 [0] (.of [(3,[]),(4,[]),(5,[]),(6,[]),(7,[]),(9,[]),(10,[]),(11,[])]) .stop)))))
 | 9=>(.op 0 [] (.op 1 [] (.op 2 [] (.op 3 [] (.op 4 [] (.op 5 [] (.op 6 [] (.op 7 [6] (.op 8 [] (.op 9 [] (.op 10 [] (.op 11 [] (.op 12 [] (.op 13 [] (.op 14 [] (.op 15 [] (.op 16 [] (.op 17 [] (.op 18 [] (.op 19 [] (.op 20 [] (.op 21 [] (.op 22 [] (.op 23 [] (.op 24 [] (.op 25 [24] (.op 26 [] (.op 27 [] (.op 28 [] (.op 29 [] (.op 30 [] (.op 31 [] (.op 32 [] (.op 33 [] (.op 34 [] (.op 35 [] (.op 36 [] (.op 37 [] (.op 38 [] (.op 39 [] (.op 40 [] (.op 41 [] (.op 42 [] (.op 43 [] (.op 44 [] (.op 45 [] (.op 46 [] (.op 48 [] (.op 49 [] (.op 50 [] (.alt 47 [48,49,50] (.of [(51,[]),(52,[]),(53,[]),(54,[]),(55,[]),(57,[]),(56,[]),(58,[]),(59,[]),(60,[]),(61,[]),(62,[]),(63,[]),(64,[]),(65,[]),(66,[]),(67,[]),(68,[]),(69,[]),(70,[]),(71,[])]) (.alt 51 [] (.of [(47,[48,49,50]),(52,[]),(53,[]),(54,[]),(55,[]),(57,[]),(56,[]),(58,[]),(59,[]),(60,[]),(61,[]),(62,[]),(63,[]),(64,[]),(65,[]),(66,[]),(67,[]),(68,[]),(69,[]),(70,[]),(71,[])]) .stop))))))))))))))))))))))))))))))))))))))))))))))))))))
 | _=>.nil
theorem alw(h:S34 w K):CR 34 [] w K:=
 qO 150 P34 1 [.tmp 0] Tryz.func34 h
theorem azm:PL 34:=dJ Tryz.func34
end Go.Proofs.YtpdlpabnlkofmaaGreatDoor
namespace Go.Proofs.YtpdlpabnlkofmaaGreatDoor
open Go.Fw
def Ik(u:Int)(B:Int):pr hH (l2 63 [(0,hZ u),(1,hZ B)].toArray)=some (.agg [hZ u,hZ B,hZ 0,.slice none 0 0].toArray):=by kernel_rfl
def Tl:ByteArray:=⟨#[108,105,110,101,32,97,59,32,116,104,114,101,97,100,32,116,32,123,32,115,116,111,114,101,32,97,32,61,32,49,59,32,99,104,101,99,107,32,48,59,32,125,32,116,104,114,101,97,100,32,117,32,123,32,109,102,101,110,99,101,59,32,125]⟩
def qN:cE:=((vC Tl).getD (Nn,0,0)).1
def QZ:vC Tl=some (qN,0,0):=by decide +kernel
def Vd:∀l e a,vY Tl=some (l,e,a)->jk l:=ae5 (by decide +kernel)
theorem aa8:xm qN=qN:=by decide +kernel
def yr:PZ qN:=by rw[<- aa8];exact Sb _
def azn:pY qN 2 0 ([(⟨1,1,0,[]⟩:aS),(⟨1,0,0,[]⟩:aS),(⟨2,0,0,[]⟩:aS),(⟨1,0,0,[]⟩:aS)]:List aS)=(([(⟨1,0,0,[]⟩:aS),(⟨1,0,0,[]⟩:aS)]:List aS),(⟨3,1,0,[0]⟩:aS),0)/\fo qN 2 0 ([(⟨2,0,0,[]⟩:aS),(⟨1,0,0,[]⟩:aS),(⟨2,0,0,[]⟩:aS),(⟨1,1,0,[]⟩:aS),(⟨1,1,0,[]⟩:aS)]:List aS)=(([(⟨1,0,0,[]⟩:aS),(⟨2,0,0,[]⟩:aS),(⟨1,1,0,[]⟩:aS)]:List aS),(⟨0,0,0,[1]⟩:aS),0)/\pY qN 2 0 ([(⟨1,1,0,[]⟩:aS)]:List aS)=([],zE,13)/\pY qN 2 0 ([(⟨2,0,0,[]⟩:aS),(⟨1,0,0,[]⟩:aS),(⟨1,0,0,[]⟩:aS)]:List aS)=([],zE,13)/\fo qN 2 9 []=([],zE,1):=by decide +kernel
def ae6(R:List aS×aS×Int)(K:hM)(p:cE)(pv:bP)(room c:Int)(lv:Value)(l:List aS)(w:World)(u:∀w',Ext w w'->K w')(G:J3 K pv p)(I:PZ p)(E:Ig K lv l)(B:l.length<=1000)(M:∀q∈l,q.cut.length<=1000)(J:pY p room c l=R) :
  Calls hH 35 [ia pv,hZ room,hZ c,lv].toArray w (tP λv w'=>∃(ov:Value) (ev:aI),v=.tuple #[ov,ia ev,hZ R.2.2]/\lg (eG λw=>DL w ov R.1/\mG w ev R.2.1) w w'):=J▸C35 K p pv room c lv l w u G I E B M
def asm(R:List aS×aS×Int)(K:hM)(p:cE)(pv:bP)(room c:Int)(lv:Value)(l:List aS)(w:World)(u:∀w',Ext w w'->K w')(G:J3 K pv p)(I:PZ p)(E:Ig K lv l)(B:l.length<=1000)(M:∀q∈l,q.cut.length<=1000)(J:fo p room c l=R) :
  Calls hH 27 [ia pv,hZ room,hZ c,lv].toArray w (tP λv w'=>∃(ov:Value) (ev:aI),v=.tuple #[ov,ia ev,hZ R.2.2]/\lg (eG λw=>DL w ov R.1/\mG w ev R.2.1) w w'):=J▸C27 K p pv room c lv l w u G I E B M
def C34(w:World):CR 34 [] w (λv w'=>v=.bool true/\Ext w w'):=by
 have u:=St.start w;refine alw _ _ ?_;unfold S34;obtain⟨r1,r2,r3,r4,r5⟩:=azn;refine dQ at5 (C65 Tl (qN,0,0) _ ee QZ Vd) ?_;rintro _ _ ⟨pv,rfl,B⟩;have u:=u.made B;refine aQ rfl (aQ rfl (aQ rfl (aM u vf λb1 _ u=>aJ (x:=pv) u et rfl rfl λ_ u=>pop (Tj 1) (pop (Cf 1 1) (pop (Tj 2) (aM u BL λb4 _ u=>aM u BL λb5 _ u=>aM u BL λb6 _ u=>aJ (x:=(⟨1,0,0,bX⟩:aI)) u.p2 j6 rfl rfl λ_ u=>aJ (x:=(⟨1,1,0,bX⟩:aI)) u.p2 j6 rfl rfl λ_ u=>?_))))));refine aJ (x:=(⟨2,0,0,bX⟩:aI)) u.p2 j6 rfl rfl (λM u=>?_)
 have u:=u.p4;obtain⟨J,u,hX⟩:=u.MJ;have O:J3 (oB J M) pv qN:=J3.of hX;refine aD (x:=(⟨1,1,0,bX⟩:aI)) j6 u.p2.At (aD (x:=(⟨1,0,0,bX⟩:aI)) j6 u.p3.At (aD (x:=(⟨2,0,0,bX⟩:aI)) j6 u.p1.At (aD (x:=(⟨1,0,0,bX⟩:aI)) j6 u.p3.At (aZ ([(⟨1,1,0,bX⟩:aI),(⟨1,0,0,bX⟩:aI),(⟨2,0,0,bX⟩:aI),(⟨1,0,0,bX⟩:aI)]:List aI) u fW rfl rfl (dL rfl) λE _ u=>aD (x:=pv) et u.p5.At (dQ ae1 (ae6 _ (λw'=>oB J M w'/\dA (λ_=>True) w' E ([(⟨1,1,0,bX⟩:aI),(⟨1,0,0,bX⟩:aI),(⟨2,0,0,bX⟩:aI),(⟨1,0,0,bX⟩:aI)]:List aI)) qN pv 2 0 E ([(⟨1,1,0,[]⟩:aS),(⟨1,0,0,[]⟩:aS),(⟨2,0,0,[]⟩:aS),(⟨1,0,0,[]⟩:aS)]:List aS) _ (λ_ e=>⟨(u.ext e).p1.eG,(u.ext e).dX⟩) (O.mono λ_ h=>h.1) yr ⟨_,λ_ h=>⟨h.2,(fV (qY _ 1 1 0) (fV (qY _ 1 0 0) (fV (qY _ 2 0 0) (fV (qY _ 1 0 0) gM.nil))))⟩⟩ ee ee r1) ?_)))))
 rintro _ _ ⟨om,G,rfl,B⟩;have u:=u.made B;refine aQ rfl (aQ rfl (aQ rfl (aM u gW λb9 _ u=>aJ (x:=G) u fc rfl rfl λ_ u=>aD (x:=pv) et u.p7.At (aD (x:=(⟨2,0,0,bX⟩:aI)) j6 u.p4.At (aD (x:=(⟨1,0,0,bX⟩:aI)) j6 u.p6.At (aD (x:=(⟨2,0,0,bX⟩:aI)) j6 u.p4.At (aD (x:=(⟨1,1,0,bX⟩:aI)) j6 u.p5.At (aD (x:=(⟨1,1,0,bX⟩:aI)) j6 u.p5.At (aZ ([(⟨2,0,0,bX⟩:aI),(⟨1,0,0,bX⟩:aI),(⟨2,0,0,bX⟩:aI),(⟨1,1,0,bX⟩:aI),(⟨1,1,0,bX⟩:aI)]:List aI) u fW rfl rfl (dL rfl) λx50 _ u=>dQ QY (asm _ (λw'=>oB J M w'/\dA (λ_=>True) w' x50 ([(⟨2,0,0,bX⟩:aI),(⟨1,0,0,bX⟩:aI),(⟨2,0,0,bX⟩:aI),(⟨1,1,0,bX⟩:aI),(⟨1,1,0,bX⟩:aI)]:List aI)) qN pv 2 0 x50 ([(⟨2,0,0,[]⟩:aS),(⟨1,0,0,[]⟩:aS),(⟨2,0,0,[]⟩:aS),(⟨1,1,0,[]⟩:aS),(⟨1,1,0,[]⟩:aS)]:List aS) _ (λ_ e=>⟨(u.ext e).p4.eG,(u.ext e).dX⟩) (O.mono λ_ h=>h.1) yr ⟨_,λ_ h=>⟨h.2,(fV (qY _ 2 0 0) (fV (qY _ 1 0 0) (fV (qY _ 2 0 0) (fV (qY _ 1 1 0) (fV (qY _ 1 1 0) gM.nil)))))⟩⟩ ee ee r2) ?_)))))))))
 rintro _ _ ⟨od,I,rfl,B⟩;have u:=u.made B;refine aQ rfl (aQ rfl (aQ rfl (aM u gW λb12 _ u=>aJ (x:=I) u fc rfl rfl λ_ u=>?_)));have u:=u.p2.drop;refine⟨λjv w'=>jv=hZ 13/\St w bD [bY b12 (j0 I),eG (λw=>DL w od ([(⟨1,0,0,[]⟩:aS),(⟨2,0,0,[]⟩:aS),(⟨1,1,0,[]⟩:aS)]:List aS)/\mG w I (⟨0,0,0,[1]⟩:aS)),bY b9 (j0 G),eG (λw=>DL w om ([(⟨1,0,0,[]⟩:aS),(⟨1,0,0,[]⟩:aS)]:List aS)/\mG w G (⟨3,1,0,[0]⟩:aS)),bH E ([(⟨1,1,0,bX⟩:aI),(⟨1,0,0,bX⟩:aI),(⟨2,0,0,bX⟩:aI),(⟨1,0,0,bX⟩:aI)]:List aI),eG (oB J M),bY b6 (j0 (⟨2,0,0,bX⟩:aI)),bY b5 (j0 (⟨1,1,0,bX⟩:aI)),bY b4 (j0 (⟨1,0,0,bX⟩:aI)),bY b1 (j0 pv)] w',?_,?_⟩
 .have u:=u.drew;refine aD (x:=pv) et u.p9.At (jP fW u.p4.dX ee ee λZ V=>⟨?_,?_,trivial⟩)
  .refine dQ ae1 (ae6 _ (λw'=>oB J M w'/\dA (λ_=>True) w' E ([(⟨1,1,0,bX⟩:aI),(⟨1,0,0,bX⟩:aI),(⟨2,0,0,bX⟩:aI),(⟨1,0,0,bX⟩:aI)]:List aI)) qN pv 2 0 Z ([(⟨1,1,0,[]⟩:aS)]:List aS) _ (λ_ e=>⟨(u.ext e).p5.eG,((u.ext e).p4).dX⟩) (O.mono λ_ h=>h.1) yr ⟨_,λw h=>⟨V w h.2,(fV (qY _ 1 1 0) gM.nil)⟩⟩ ee ee r3) ?_;rintro _ _ ⟨o3,e3,rfl,B⟩;have u:=u.made B;refine aQ rfl (aQ rfl (aQ rfl (aM u gW λb15 _ u=>?_)));refine⟨eH et u.p11.At,?_⟩;exact aJ (x:=e3) u fc rfl rfl (λ_ u=>have u:=u.drop.drop.p9.p9.p9.p9.p9.p9.p9.p9.p9.p9;⟨rfl,u⟩)
  refine aM u gW (λb15 _ u=>?_);refine⟨eH et u.p10.At,?_⟩;refine dQ ae1 (ae6 _ (λw'=>oB J M w'/\dA (λ_=>True) w' E ([(⟨1,1,0,bX⟩:aI),(⟨1,0,0,bX⟩:aI),(⟨2,0,0,bX⟩:aI),(⟨1,0,0,bX⟩:aI)]:List aI)) qN pv 2 0 Z ([(⟨1,1,0,[]⟩:aS)]:List aS) _ (λ_ e=>⟨(u.ext e).p6.eG,((u.ext e).p5).dX⟩) (O.mono λ_ h=>h.1) yr ⟨_,λw h=>⟨V w h.2,(fV (qY _ 1 1 0) gM.nil)⟩⟩ ee ee r3) ?_;rintro _ _ ⟨o3,e3,rfl,B⟩;have u:=u.made B;exact aQ rfl (aQ rfl (aQ rfl (aJ (x:=e3) u.p1 fc rfl rfl λ_ u=>have u:=u.drop.drop.p9.p9.p9.p9.p9.p9.p9.p9.p9.p9;⟨rfl,u⟩)))
 rintro _ _ ⟨rfl,u⟩ _;refine aD (x:=pv) et u.p9.At (aD (x:=(⟨2,0,0,bX⟩:aI)) j6 u.p6.At (aD (x:=(⟨1,0,0,bX⟩:aI)) j6 u.p8.At (aD (x:=(⟨1,0,0,bX⟩:aI)) j6 u.p8.At (aZ ([(⟨2,0,0,bX⟩:aI),(⟨1,0,0,bX⟩:aI),(⟨1,0,0,bX⟩:aI)]:List aI) u fW rfl rfl (dL rfl) λW _ u=>dQ ae1 (ae6 _ (λw'=>oB J M w'/\dA (λ_=>True) w' W ([(⟨2,0,0,bX⟩:aI),(⟨1,0,0,bX⟩:aI),(⟨1,0,0,bX⟩:aI)]:List aI)) qN pv 2 0 W ([(⟨2,0,0,[]⟩:aS),(⟨1,0,0,[]⟩:aS),(⟨1,0,0,[]⟩:aS)]:List aS) _ (λ_ e=>⟨(u.ext e).p6.eG,(u.ext e).dX⟩) (O.mono λ_ h=>h.1) yr ⟨_,λ_ h=>⟨h.2,(fV (qY _ 2 0 0) (fV (qY _ 1 0 0) (fV (qY _ 1 0 0) gM.nil)))⟩⟩ ee ee r4) ?_))))
 rintro _ _ ⟨o4,e4,rfl,B⟩;have u:=u.made B;refine aQ rfl (aQ rfl (aQ rfl (aM u gW λb18 _ u=>aJ (x:=e4) u fc rfl rfl λ_ u=>have u:=u.drop.p1.drop.drop;aD (x:=pv) et u.p9.At (dQ QY (asm _ (oB J M) qN pv 2 9 (.slice none 0 0) [] _ (λ_ e=>(u.ext e).p5.eG) O yr (Ig.nil _) ee ee r5) ?_))));rintro _ _ ⟨o5,e5,rfl,B⟩;have u:=u.made B;refine aQ rfl (aQ rfl (aQ rfl (aM u gW λb21 _ u=>aJ (x:=e5) u fc rfl rfl λ_ u=>?_)));have u:=u.drop.drop;refine⟨λjv w'=>jv=.bool true/\Ext w w',?_,?_⟩;rotate_left
 .rintro _ _ h _;exact h
 have u:=u.drew;refine aD (x:=(⟨1,0,0,bX⟩:aI)) j6 u.p8.At (aD (x:=(⟨1,0,0,bX⟩:aI)) j6 u.p8.At (aZ ([(⟨1,0,0,bX⟩:aI),(⟨1,0,0,bX⟩:aI)]:List aI) u fW rfl rfl (dL rfl) λq1 _ u=>aV Kv u (C19 om q1 ([(⟨1,0,0,[]⟩:aS),(⟨1,0,0,[]⟩:aS)]:List aS) ([(⟨1,0,0,[]⟩:aS),(⟨1,0,0,[]⟩:aS)]:List aS) _ u.p4.eG.1 (DL.of u.dX (fV (qY _ 1 0 0) (fV (qY _ 1 0 0) gM.nil))) ee ee) λ_ he u=>jU ee (have u:=u.drop;aD (x:=G) fc u.p2.At (aZ ([0]:List Int) u cS rfl rfl (dL rfl) λz1 _ u=>?_))));refine⟨eH fc u.p3.At,?_⟩
 obtain⟨s1,rfl⟩:=u.fI;refine pop (NZ 3 1 _ _ _) ?_;have TK:mG _ (⟨3,1,0,s1⟩:aI) (⟨3,1,0,[0]⟩:aS):=e0 _ _ _ _ u.dX;refine aV alq u (C29 (⟨3,1,0,[0]⟩:aS) G (⟨3,1,0,[0]⟩:aS) (⟨3,1,0,s1⟩:aI) _ u.p4.eG.2 TK ee) (λ_ he u=>jU ee (have u:=u.drop;aH (aC (λ_=>?_) λh=>absurd rfl h)));refine aD (x:=(⟨1,0,0,bX⟩:aI)) j6 u.p8.At (aD (x:=(⟨2,0,0,bX⟩:aI)) j6 u.p6.At (aD (x:=(⟨1,1,0,bX⟩:aI)) j6 u.p7.At (aZ ([(⟨1,0,0,bX⟩:aI),(⟨2,0,0,bX⟩:aI),(⟨1,1,0,bX⟩:aI)]:List aI) u fW rfl rfl (dL rfl) λq2 _ u=>aV Kv u (C19 od q2 ([(⟨1,0,0,[]⟩:aS),(⟨2,0,0,[]⟩:aS),(⟨1,1,0,[]⟩:aS)]:List aS) ([(⟨1,0,0,[]⟩:aS),(⟨2,0,0,[]⟩:aS),(⟨1,1,0,[]⟩:aS)]:List aS) _ u.p2.eG.1 (DL.of u.dX (fV (qY _ 1 0 0) (fV (qY _ 2 0 0) (fV (qY _ 1 1 0) gM.nil)))) ee ee) λ_ he u=>jU ee (have u:=u.drop;aD (x:=I) fc u.At (aZ ([1]:List Int) u cS rfl rfl (dL rfl) λz2 _ u=>?_)))))
 refine⟨eH fc u.p1.At,?_⟩;obtain⟨s2,rfl⟩:=u.fI;refine pop (ae4 _ _ _) ?_;have hz2:mG _ (⟨0,0,0,s2⟩:aI) (⟨0,0,0,[1]⟩:aS):=e0 _ _ _ _ u.dX;refine aV alq u (C29 (⟨0,0,0,[1]⟩:aS) I (⟨0,0,0,[1]⟩:aS) (⟨0,0,0,s2⟩:aI) _ u.p2.eG.2 hz2 ee) (λ_ he u=>jU ee (have u:=u.drop;aH (aC (λ_=>aH (aC (λ_=>aH (aC (λ_=>aH (aC (λ_=>aD (x:=(⟨1,1,0,bX⟩:aI)) j6 u.p7.At (aD (x:=(⟨2,0,0,bX⟩:aI)) j6 u.p6.At (aD (x:=(⟨1,0,0,bX⟩:aI)) j6 u.p8.At ⟨?_,?_,trivial⟩))) λh=>absurd rfl h)) λh=>absurd rfl h)) λh=>absurd rfl h)) λh=>absurd rfl h)))
 .refine dT QW u (C30 (λw'=>dA (λ_=>True) w' E ([(⟨1,1,0,bX⟩:aI),(⟨1,0,0,bX⟩:aI),(⟨2,0,0,bX⟩:aI),(⟨1,0,0,bX⟩:aI)]:List aI)) E ([(⟨1,1,0,bX⟩:aI),(⟨1,0,0,bX⟩:aI),(⟨2,0,0,bX⟩:aI),(⟨1,0,0,bX⟩:aI)]:List aI) 1 _ (λ_ e=>((u.ext e).p4).dX) (λ_ h=>h) ee) (λY _ B u=>?_);refine⟨eH j6 u.p8.At,?_⟩;refine⟨eH j6 u.p7.At,?_⟩;refine⟨eH j6 u.p9.At,?_⟩;refine aZ ([(⟨1,1,0,bX⟩:aI),(⟨2,0,0,bX⟩:aI),(⟨1,0,0,bX⟩:aI)]:List aI) u fW rfl rfl (dL rfl) (λq3 _ u=>?_);have BG:dA (λ_=>True) _ Y ([(⟨1,1,0,bX⟩:aI),(⟨2,0,0,bX⟩:aI),(⟨1,0,0,bX⟩:aI)]:List aI):=u.p1.eG u.p6.dX
  refine aV Kv u (C19 Y q3 ([(⟨1,1,0,[]⟩:aS),(⟨2,0,0,[]⟩:aS),(⟨1,0,0,[]⟩:aS)]:List aS) ([(⟨1,1,0,[]⟩:aS),(⟨2,0,0,[]⟩:aS),(⟨1,0,0,[]⟩:aS)]:List aS) _ (DL.of BG (fV (qY _ 1 1 0) (fV (qY _ 2 0 0) (fV (qY _ 1 0 0) gM.nil)))) (DL.of u.dX (fV (qY _ 1 1 0) (fV (qY _ 2 0 0) (fV (qY _ 1 0 0) gM.nil)))) ee ee) (λ_ he u=>jU ee (have u:=u.drop;dT QW u (C30 (λw'=>dA (λ_=>True) w' E ([(⟨1,1,0,bX⟩:aI),(⟨1,0,0,bX⟩:aI),(⟨2,0,0,bX⟩:aI),(⟨1,0,0,bX⟩:aI)]:List aI)) E ([(⟨1,1,0,bX⟩:aI),(⟨1,0,0,bX⟩:aI),(⟨2,0,0,bX⟩:aI),(⟨1,0,0,bX⟩:aI)]:List aI) 4 _ (λ_ e=>((u.ext e).p5).dX) (λ_ h=>h) ee) λU _ B u=>?_))
  have U7:dA (λ_=>True) _ U ([(⟨1,1,0,bX⟩:aI),(⟨1,0,0,bX⟩:aI),(⟨2,0,0,bX⟩:aI),(⟨1,0,0,bX⟩:aI)]:List aI):=u.eG u.p6.dX;exact aV Kv u (C19 U E ([(⟨1,1,0,[]⟩:aS),(⟨1,0,0,[]⟩:aS),(⟨2,0,0,[]⟩:aS),(⟨1,0,0,[]⟩:aS)]:List aS) ([(⟨1,1,0,[]⟩:aS),(⟨1,0,0,[]⟩:aS),(⟨2,0,0,[]⟩:aS),(⟨1,0,0,[]⟩:aS)]:List aS) _ (DL.of U7 (fV (qY _ 1 1 0) (fV (qY _ 1 0 0) (fV (qY _ 2 0 0) (fV (qY _ 1 0 0) gM.nil))))) (DL.of u.p6.dX (fV (qY _ 1 1 0) (fV (qY _ 1 0 0) (fV (qY _ 2 0 0) (fV (qY _ 1 0 0) gM.nil))))) ee ee) (λ_ _ u=>jU ee (aD (x:=G) fc u.p4.At (pop (Ik 3 1) (aV Va u (C32 (⟨3,1,0,[0]⟩:aS) G (⟨3,1,0,[]⟩:aS) (⟨3,1,0,bX⟩:aI) _ u.p5.eG.2 (qY _ 3 1 0)) λ_ _ u=>jU ee (aD (x:=G) fc u.p4.At (aD (x:=I) fc u.p2.At (aV Va u (C32 (⟨3,1,0,[0]⟩:aS) G (⟨0,0,0,[1]⟩:aS) I _ u.p5.eG.2 u.p3.eG.2) λ_ _ u=>bR ⟨rfl,u.aG⟩)))))))
 refine aZ ([(⟨1,1,0,bX⟩:aI),(⟨2,0,0,bX⟩:aI),(⟨1,0,0,bX⟩:aI)]:List aI) u fW rfl rfl (dL rfl) (λq3 _ u=>dT QW u (C30 (λw'=>dA (λ_=>True) w' E ([(⟨1,1,0,bX⟩:aI),(⟨1,0,0,bX⟩:aI),(⟨2,0,0,bX⟩:aI),(⟨1,0,0,bX⟩:aI)]:List aI)) E ([(⟨1,1,0,bX⟩:aI),(⟨1,0,0,bX⟩:aI),(⟨2,0,0,bX⟩:aI),(⟨1,0,0,bX⟩:aI)]:List aI) 1 _ (λ_ e=>((u.ext e).p5).dX) (λ_ h=>h) ee) λY _ B u=>?_);refine⟨eH j6 u.p9.At,?_⟩;refine⟨eH j6 u.p8.At,?_⟩;refine⟨eH j6 u.p10.At,?_⟩;have BG:dA (λ_=>True) _ Y ([(⟨1,1,0,bX⟩:aI),(⟨2,0,0,bX⟩:aI),(⟨1,0,0,bX⟩:aI)]:List aI):=u.eG u.p6.dX
 refine aV Kv u (C19 Y q3 ([(⟨1,1,0,[]⟩:aS),(⟨2,0,0,[]⟩:aS),(⟨1,0,0,[]⟩:aS)]:List aS) ([(⟨1,1,0,[]⟩:aS),(⟨2,0,0,[]⟩:aS),(⟨1,0,0,[]⟩:aS)]:List aS) _ (DL.of BG (fV (qY _ 1 1 0) (fV (qY _ 2 0 0) (fV (qY _ 1 0 0) gM.nil)))) (DL.of u.p1.dX (fV (qY _ 1 1 0) (fV (qY _ 2 0 0) (fV (qY _ 1 0 0) gM.nil)))) ee ee) (λ_ he u=>jU ee (have u:=u.p1.drop;dT QW u (C30 (λw'=>dA (λ_=>True) w' E ([(⟨1,1,0,bX⟩:aI),(⟨1,0,0,bX⟩:aI),(⟨2,0,0,bX⟩:aI),(⟨1,0,0,bX⟩:aI)]:List aI)) E ([(⟨1,1,0,bX⟩:aI),(⟨1,0,0,bX⟩:aI),(⟨2,0,0,bX⟩:aI),(⟨1,0,0,bX⟩:aI)]:List aI) 4 _ (λ_ e=>((u.ext e).p5).dX) (λ_ h=>h) ee) λU _ B u=>?_))
 have U7:dA (λ_=>True) _ U ([(⟨1,1,0,bX⟩:aI),(⟨1,0,0,bX⟩:aI),(⟨2,0,0,bX⟩:aI),(⟨1,0,0,bX⟩:aI)]:List aI):=u.eG u.p6.dX;exact aV Kv u (C19 U E ([(⟨1,1,0,[]⟩:aS),(⟨1,0,0,[]⟩:aS),(⟨2,0,0,[]⟩:aS),(⟨1,0,0,[]⟩:aS)]:List aS) ([(⟨1,1,0,[]⟩:aS),(⟨1,0,0,[]⟩:aS),(⟨2,0,0,[]⟩:aS),(⟨1,0,0,[]⟩:aS)]:List aS) _ (DL.of U7 (fV (qY _ 1 1 0) (fV (qY _ 1 0 0) (fV (qY _ 2 0 0) (fV (qY _ 1 0 0) gM.nil))))) (DL.of u.p6.dX (fV (qY _ 1 1 0) (fV (qY _ 1 0 0) (fV (qY _ 2 0 0) (fV (qY _ 1 0 0) gM.nil))))) ee ee) (λ_ _ u=>jU ee (aD (x:=G) fc u.p4.At (pop (Ik 3 1) (aV Va u (C32 (⟨3,1,0,[0]⟩:aS) G (⟨3,1,0,[]⟩:aS) (⟨3,1,0,bX⟩:aI) _ u.p5.eG.2 (qY _ 3 1 0)) λ_ _ u=>jU ee (aD (x:=G) fc u.p4.At (aD (x:=I) fc u.p2.At (aV Va u (C32 (⟨3,1,0,[0]⟩:aS) G (⟨0,0,0,[1]⟩:aS) I _ u.p5.eG.2 u.p3.eG.2) λ_ _ u=>bR ⟨rfl,u.aG⟩)))))))
variable (w:World) (K:Value->hM)
def P9:dI:=λi=>match i with
 | 6=>(.of [(0,[]),(1,[]),(2,[]),(3,[]),(4,[]),(5,[]),(6,[]),(7,[]),(8,[]),(9,[]),(10,[]),(11,[]),(12,[]),(13,[]),(14,[]),(15,[]),(16,[]),(17,[]),(18,[]),(19,[]),(20,[]),(21,[]),(22,[]),(23,[]),(25,[]),(26,[]),(27,[]),(28,[]),(29,[]),(24,[25,28]),(30,[]),(31,[]),(32,[]),(33,[]),(34,[]),(35,[]),(36,[])])
 | _=>.nil
end Go.Proofs.YtpdlpabnlkofmaaGreatDoor
namespace Go.Proofs.YtpdlpabnlkofmaaGreatDoor
open Go.Fw
theorem aa9{p:cE}{c:Int}(hc:Gw p):∀(l:List aS) (m:gR) (o:List cH) (a:Nat),sV p a m->sV p (a+l.length) (vH c m o l).1
 | [],m,o,a,h=>h
 | q::r,m,o,a,h=>by
  rw[List.length_cons]
  unfold vH
  split
  .exact h.mono cK
  .split
   .exact(h.step hc).mono cK
   .exact(aa9 hc r _ _ _ (h.step hc)).mono cK
def aba{p:cE}{room c:Int}(h:eW p room c=0):fj p=0/\(1<=room/\room<=16)/\0<=c/\c<=8:=by
 unfold eW at h
 omega
def alx{p:cE}{room c:Int}(u:PZ p)(h:eW p room c=0)(l:List aS):sV p l.length (vH c (iS p room) [] l).1:=by
 obtain⟨h1,h2,_⟩:=aba h
 have:=aa9 (c:=c) (vG h1) l _ [] 0 (sV.new u (vG h1) h2)
 grind
def abb{p:cE}{room c:Int}(B:PZ p)(l:List aS):(Bs p room c l).1.cut.length<=1073741824:=by
 unfold Bs
 split
 .exact l1 _
 rename_i h
 split
 .exact l1 _
 have u:=(alx B (u1.1 h) l).go.ok
 show(List.take _ _).length<=_
 rw[l0]
 have:=u.mem.ll;have:=u.mem.fl
 omega
variable (w:World) (K:Value->hM)
def P4:dI:=λi=>match i with
 | 6=>(.of [(0,[]),(1,[]),(2,[]),(3,[]),(4,[]),(5,[]),(6,[]),(7,[]),(8,[]),(9,[]),(10,[]),(11,[]),(12,[]),(13,[]),(14,[]),(15,[]),(16,[]),(18,[]),(19,[]),(20,[]),(17,[20]),(21,[]),(22,[]),(23,[]),(24,[]),(25,[]),(26,[]),(27,[]),(28,[]),(30,[]),(31,[]),(32,[]),(33,[]),(29,[30,32]),(34,[]),(35,[]),(36,[]),(37,[]),(38,[]),(39,[]),(40,[])])
 | _=>.nil
end Go.Proofs.YtpdlpabnlkofmaaGreatDoor
namespace Go.Proofs.YtpdlpabnlkofmaaGreatDoor
open Go.Fw
def Tm(u:Int):pr hH (l2 63 [(0,hZ u)].toArray)=some (.agg [hZ u,hZ 0,hZ 0,.slice none 0 0].toArray):=by kernel_rfl
def Ve{p:cE}{room c:Int}(u:PZ p)(l:List aS):(fo p room c l).2.1.cut.length<=1073741824:=by
 by_cases h:eW p room c=0
 .rw[J6 h]
  show(Cp _).cut.length<=_
  rw[<- (NW h l).1]
  exact abb u _
 rw[vK h];exact l1 _
section
variable {D:List aS->List aS×aS}(hD:∀s,(D s).1.length<=s.length) {Q:List aS->aS->Prop}
include hD in
end
structure Tn where
 a:Int
 b:Int
 c:Int
instance:Flat Tn where
 agg:=true
 sz:=3
 enc e:=[hZ e.a,hZ e.b,hZ e.c]
 val e:=.agg [hZ e.a,hZ e.b,hZ e.c].toArray
 pos:=ee
 len _:=rfl
 one a v h:=by simp at h;rcases h with rfl|rfl|rfl<;>rfl
 nx _ _:=rfl
 nT h:=by cases h
def F6:ahK hH 60 3 3:=⟨by kernel_rfl,by kernel_rfl⟩
def C4(p:cE)(pv:bP)(n:Tn)(lv:Value)(l:List aS)(w:World)(hp:mG w pv p)(hL:DL w lv l):CR 4 [ia pv,ia n,lv] w (λv w'=>v=.bool true/\Ext w w'):=by
 have u:=St.start w;refine oH Tryz.func4 (pl:=P4) ?_;refine cI (x:=pv) u (λb3 w1 u=>cI (x:=n) u λb4 w2 u=>aD et u.p1.At (dQ at1 (C11 p pv _ (Deep.ext hp u.aG)) ?_));rintro _ w3 ⟨U,rfl,G⟩;have u:=u.made G;refine aJ (x:=U) u.p2 et rfl rfl (λw5 u=>dQ azc (C26 lv l _ (hL.ext u.aG)) ?_);rintro sv I G;have u:=((u.made G).p2).gZ;obtain⟨J,u,hX⟩:=u.MJ;have Z:J3 (oB J I) U (xm p):=J3.of λw' h=>(hX w' h).1;have Vr:Ig (oB J I) sv (oF l):=Ig.of λw' h=>(hX w' h).2;obtain⟨ts,O⟩:=id Vr;obtain⟨hl1,Dg⟩:=aaZ l;have Y:∀q∈(oF l),q.cut.length<=1000:=λq M=>wc (Dg q M) ee
 have V:∀q∈(oF l),q.cut.length<=1000000:=λq M=>wc (Dg q M) ee;have hz:=Sb p;have hn:ts.length=(oF l).length:=(O _ u.eG).2.1;have ha:=D8 n.a (b:=3) ee ee;refine jV F6 ee ee (bM bL (u.p2.hb.cell (o:=0) rfl) (ab8 ee ee (aN cK (aD (x:=U) et u.p1.At (jV F6 ee ee (bM bL (u.p2.hb.cell (o:=1) rfl) (dQ QY (C27 (oB J I) (xm p) U (1+Ah n.a 3) n.b sv (oF l) _ (λ_ e=>(u.ext e).eG) Z hz Vr cK Y) ?_)))))));rintro _ w9 ⟨ZD,E,rfl,G⟩;have u:=u.made G;refine aQ rfl (aQ rfl (aQ rfl (aM u gW λb9 w1 u=>aJ (x:=E) u fc rfl rfl λw2 u=>aD (x:=U) et u.p3.At (jV F6 ee ee (bM bL (u.p4.hb.cell (o:=1) rfl) (dQ azh (C28 (oB J I) (oB J I) (xm p) U (1+Ah n.a 3) n.b sv ts (oF l) _ (λ_ e=>(u.ext e).p2.eG) Z hz (λw h=>(O w h).1) (λw h=>(O w h).2) (λ_ h=>h) cK Y) ?_))))))
 rintro _ w10 ⟨ov2,us2,B,rfl,azo,G⟩;have u:=(u.made G).split;refine aQ rfl (aQ rfl (aQ rfl (aM u gW λb12 w3 u=>aJ (x:=B) u fc rfl rfl λ_ u=>?_)));refine⟨λjv w'=>jv=.bool true/\Ext w w',?_,?_⟩;rotate_left
 .rintro _ _ h _;exact h
 have u:=u.drew;have W:=yo (p:=(xm p)) (room:=(1+Ah n.a 3)) (c:=n.b) (l:=(oF l));refine aV Kv u (C19 ZD ov2 (fo (xm p) (1+Ah n.a 3) n.b (oF l)).1 (fo (xm p) (1+Ah n.a 3) n.b (oF l)).1 _ u.p4.eG.1 (DL.of u.p1.dX (azo _ u.p5.eG)) (by have:=W.length_le;omega) λq M=>V q (W.subset M)) (λw5 he u=>aC (λ_=>?_) λh=>absurd rfl h);refine aD (x:=E) fc u.p3.At (aD (x:=B) fc u.At (aV alq u (C29 (fo (xm p) (1+Ah n.a 3) n.b (oF l)).2.1 E (fo (xm p) (1+Ah n.a 3) n.b (oF l)).2.1 B _ u.p4.eG.2 u.p2.eG (Ve hz _)) λ_ he u=>aC (λ_=>?_) λh=>absurd rfl h))
 refine aH (aC (λ_=>?_) λh=>absurd rfl h);refine jV F6 ee ee (bM bL (u.p7.hb.cell (o:=2) rfl) (jV F6 ee ee (bM bL (u.p7.hb.cell (o:=2) rfl) (dT QW u (C30 (oB J I) sv ts n.c _ (λ_ e=>(u.ext e).p5.eG) (λw h=>(O w h).1) cK) λv1 _ G u=>?_))));refine⟨aF bL (u.p8.hb.cell (o:=2) rfl),?_⟩;refine dT aze u (C31 (oB J I) sv ts n.c _ (λ_ e=>(u.ext e).p6.eG) (λw h=>(O w h).1) cK) (λv2 I G u=>aV Kv u (C19 v1 v2 (qX (oF l) n.c) (qX (oF l) n.c) _ (DL.of (u.p1.eG u.p7.eG) (F5 (O _ u.p7.eG).2)) (DL.of (u.eG u.p7.eG) (F5 (O _ u.p7.eG).2)) (by have:=yq (oF l) n.c;omega) λq M=>V q (DP M)) λw9 he u=>aC (λ_=>?_) λh=>absurd rfl h)
 refine aD (x:=E) fc u.p5.At (jV F6 ee ee (bM bL (u.p9.hb.cell (o:=2) rfl) (pop (Tm n.c) (aD (x:=B) fc u.p2.At (jV F6 ee ee (bM bL (u.p9.hb.cell (o:=2) rfl) (pop (Tm n.c) (aV Va u (C32 (fo (xm p) (1+Ah n.a 3) n.b (oF l)).2.1 E ⟨n.c,0,0,[]⟩ ⟨n.c,0,0,bX⟩ _ u.p6.eG.2 (qY _ n.c 0 0)) λw10 he u=>?_))))))));refine⟨eH fc u.p2.At,?_⟩;refine⟨aF bL (u.p9.hb.cell (o:=2) rfl),?_⟩;exact aV azf u (C33 (fo (xm p) (1+Ah n.a 3) n.b (oF l)).2.1 B ⟨n.c,0,0,[]⟩ ⟨n.c,0,0,bX⟩ _ u.p4.eG (qY _ n.c 0 0)) (λ_ _ u=>KN IH (jU (beq_self_eq_true _) (aV azm u (C34 _) λ_ _ u=>⟨rfl,u.aG⟩)))
def own:ownKnob Tryz.prog.godebug=none:=by kernel_rfl
def rd9:zj hH 9 ByteArray (λy=>y.size<=maxLen):=RdT.deep (ahH Tryz.underlying9 (by kernel_rfl)) λ_ _=>rfl
def Oe:zj hH 3 Int eU:=RdT.deep (ahG Tryz.underlying3 (by kernel_rfl)) λ_ _=>rfl
theorem asu:RdT hH 3 Int eU:=ahG Tryz.underlying3 (by kernel_rfl)
def aso:zj hH 161 cJ xZ:=λw=>⟨by kernel_rfl,λenc base held fuel cs x h=>by
 obtain⟨I,n,B⟩:=nV Tryz.underlying161 h
 obtain⟨y0,Y⟩:=B 0 _ rfl
 obtain⟨y1,h1⟩:=B 1 _ rfl
 obtain⟨y2,h2⟩:=B 2 _ rfl
 obtain⟨G,e0,O,U,V⟩:=(rd9 w).rd enc base held n _ _ Y
 obtain⟨E,Z,a1,d1,J⟩:=(Oe w).rd enc base held n _ _ h1
 obtain⟨u,W,M,d2,k2⟩:=(Oe w).rd enc base held n _ _ h2
 obtain rfl:G=O:=U
 obtain rfl:E=a1:=d1
 obtain rfl:u=M:=d2
 have p0:=ef (s:=1) e0
 have p1:=ef (s:=1) Z
 have p2:=ef (s:=1) W
 have hz:cs.drop 3=[]:=AF.2 (by rw[I];exact yQ (by kernel_rfl))
 refine⟨(⟨G,E,u⟩:cJ),?_,(⟨G,E,u⟩:cJ),rfl,V,J,k2⟩
 have e:cs=cs.drop 0:=rfl
 rw[e]
 refine p0.trans ?_
 refine(gN _ p1).trans ?_
 refine(gN _ (gN _ p2)).trans ?_
 exact(gN _ (gN _ (gN _ hz)))⟩
def aly:zj hH 23 (List cJ) (λys:(List cJ)=>∀y∈ys,xZ y):=zj.slice Tryz.underlying23 (by kernel_rfl) aso
def azp:zj hH 22 (List (List cJ)) (λys:(List (List cJ))=>∀y∈ys,(λys:(List cJ)=>∀y∈ys,xZ y) y):=zj.slice Tryz.underlying22 (by kernel_rfl) aly
def azq:zj hH 91 (List ByteArray) (λys:(List ByteArray)=>∀y∈ys,(λy:ByteArray=>y.size<=maxLen) y):=zj.slice Tryz.underlying91 (by kernel_rfl) rd9
def asp:zj hH 164 cA AD:=λw=>⟨by kernel_rfl,λenc base held fuel cs x h=>by
 obtain⟨J,n,u⟩:=nV Tryz.underlying164 h
 obtain⟨y0,Z⟩:=u 0 _ rfl
 obtain⟨y1,h1⟩:=u 1 _ rfl
 obtain⟨y2,h2⟩:=u 2 _ rfl
 obtain⟨y3,h3⟩:=u 3 _ rfl
 obtain⟨I,e0,U,V,W⟩:=(Oe w).rd enc base held n _ _ Z
 obtain⟨G,e1,a1,d1,M⟩:=(Oe w).rd enc base held n _ _ h1
 obtain⟨B,Y,O,d2,k2⟩:=(rd9 w).rd enc base held n _ _ h2
 obtain⟨E,e3,a3,d3,k3⟩:=(Oe w).rd enc base held n _ _ h3
 obtain rfl:I=U:=V
 obtain rfl:G=a1:=d1
 obtain rfl:B=O:=d2
 obtain rfl:E=a3:=d3
 have p0:=ef (s:=1) e0
 have p1:=ef (s:=1) e1
 have p2:=ef (s:=1) Y
 have p3:=ef (s:=1) e3
 have hz:cs.drop 4=[]:=AF.2 (by rw[J];exact yQ (by kernel_rfl))
 refine⟨(⟨I,G,B,E⟩:cA),?_,(⟨I,G,B,E⟩:cA),rfl,W,M,k2,k3⟩
 have e:cs=cs.drop 0:=rfl
 rw[e]
 refine p0.trans ?_
 refine(gN _ p1).trans ?_
 refine(gN _ (gN _ p2)).trans ?_
 refine(gN _ (gN _ (gN _ p3))).trans ?_
 exact(gN _ (gN _ (gN _ (gN _ hz))))⟩
def alz:zj hH 82 (List cA) (λys:(List cA)=>∀y∈ys,AD y):=zj.slice Tryz.underlying82 (by kernel_rfl) asp
def asq:zj hH 193 bQ IX:=λw=>⟨by kernel_rfl,λenc base held fuel cs x h=>by
 obtain⟨hl,n,u⟩:=nV Tryz.underlying193 h
 obtain⟨y0,h0⟩:=u 0 _ rfl
 obtain⟨y1,h1⟩:=u 1 _ rfl
 obtain⟨y2,h2⟩:=u 2 _ rfl
 obtain⟨y3,h3⟩:=u 3 _ rfl
 obtain⟨y4,h4⟩:=u 4 _ rfl
 obtain⟨y5,h5⟩:=u 5 _ rfl
 obtain⟨y6,h6⟩:=u 6 _ rfl
 obtain⟨y7,h7⟩:=u 7 _ rfl
 obtain⟨y8,h8⟩:=u 8 _ rfl
 obtain⟨M,e0,a0,d0,k0⟩:=(Oe w).rd enc base held n _ _ h0
 obtain⟨B,e1,a1,d1,k1⟩:=(rd9 w).rd enc base held n _ _ h1
 obtain⟨I,e2,W,d2,k2⟩:=(rd9 w).rd enc base held n _ _ h2
 obtain⟨U,e3,a3,d3,k3⟩:=(alz w).rd enc base held n _ _ h3
 obtain⟨V,e4,a4,d4,k4⟩:=(alz w).rd enc base held n _ _ h4
 obtain⟨E,Y,a5,d5,k5⟩:=(Oe w).rd enc base held n _ _ h5
 obtain⟨O,e6,a6,d6,Z⟩:=(Oe w).rd enc base held n _ _ h6
 obtain⟨G,e7,a7,d7,k7⟩:=(Oe w).rd enc base held n _ _ h7
 obtain⟨J,e8,a8,d8,k8⟩:=(Oe w).rd enc base held n _ _ h8
 obtain rfl:M=a0:=d0
 obtain rfl:B=a1:=d1
 obtain rfl:I=W:=d2
 obtain rfl:E=a5:=d5
 obtain rfl:O=a6:=d6
 obtain rfl:G=a7:=d7
 obtain rfl:J=a8:=d8
 have p0:=ef (s:=1) e0
 have p1:=ef (s:=1) e1
 have p2:=ef (s:=1) e2
 have p3:=ef (s:=1) e3
 have p4:=ef (s:=1) e4
 have p5:=ef (s:=1) Y
 have p6:=ef (s:=1) e6
 have p7:=ef (s:=1) e7
 have p8:=ef (s:=1) e8
 have hz:cs.drop 9=[]:=AF.2 (by rw[hl];exact yQ (by kernel_rfl))
 refine⟨(⟨M,B,I,U,V,E,O,G,J⟩:bE),?_,(⟨M,B,I,a3,a4,E,O,G,J⟩:bQ),⟨U,V,rfl,d3,d4⟩,k0,k1,k2,k3,k4,k5,Z,k7,k8⟩
 have e:cs=cs.drop 0:=rfl
 rw[e]
 refine p0.trans ?_
 refine(gN _ p1).trans ?_
 refine(gN _ (gN _ p2)).trans ?_
 refine(gN _ (gN _ (gN _ p3))).trans ?_
 refine(gN _ (gN _ (gN _ (gN _ p4)))).trans ?_
 refine(gN _ (gN _ (gN _ (gN _ (gN _ p5))))).trans ?_
 refine(gN _ (gN _ (gN _ (gN _ (gN _ (gN _ p6)))))).trans ?_
 refine(gN _ (gN _ (gN _ (gN _ (gN _ (gN _ (gN _ p7))))))).trans ?_
 refine(gN _ (gN _ (gN _ (gN _ (gN _ (gN _ (gN _ (gN _ p8)))))))).trans ?_
 exact(gN _ (gN _ (gN _ (gN _ (gN _ (gN _ (gN _ (gN _ (gN _ hz)))))))))⟩
def asr:zj hH 141 (List bQ) (λys:(List bQ)=>∀y∈ys,IX y):=zj.slice Tryz.underlying141 (by kernel_rfl) asq
def ass:zj hH 146 cN ya:=λw=>⟨by kernel_rfl,λenc base held fuel cs x h=>by
 obtain⟨J,n,u⟩:=nV Tryz.underlying146 h
 obtain⟨y0,Z⟩:=u 0 _ rfl
 obtain⟨y1,h1⟩:=u 1 _ rfl
 obtain⟨y2,h2⟩:=u 2 _ rfl
 obtain⟨y3,h3⟩:=u 3 _ rfl
 obtain⟨E,e0,U,V,W⟩:=(rd9 w).rd enc base held n _ _ Z
 obtain⟨I,e1,a1,d1,M⟩:=(azq w).rd enc base held n _ _ h1
 obtain⟨G,Y,O,d2,k2⟩:=(asr w).rd enc base held n _ _ h2
 obtain⟨B,e3,a3,d3,k3⟩:=(Oe w).rd enc base held n _ _ h3
 obtain rfl:E=U:=V
 obtain rfl:B=a3:=d3
 have p0:=ef (s:=1) e0
 have p1:=ef (s:=1) e1
 have p2:=ef (s:=1) Y
 have p3:=ef (s:=1) e3
 have hz:cs.drop 4=[]:=AF.2 (by rw[J];exact yQ (by kernel_rfl))
 refine⟨(⟨E,I,G,B⟩:cG),?_,(⟨E,a1,O,B⟩:cN),⟨I,G,rfl,d1,d2⟩,W,M,k2,k3⟩
 have e:cs=cs.drop 0:=rfl
 rw[e]
 refine p0.trans ?_
 refine(gN _ p1).trans ?_
 refine(gN _ (gN _ p2)).trans ?_
 refine(gN _ (gN _ (gN _ p3))).trans ?_
 exact(gN _ (gN _ (gN _ (gN _ hz))))⟩
def ast:zj hH 24 (List cN) (λys:(List cN)=>∀y∈ys,ya y):=zj.slice Tryz.underlying24 (by kernel_rfl) ass
def azr:zj hH 85 gP Eo:=λw=>⟨by kernel_rfl,λenc base held fuel cs x h=>by
 obtain⟨G,n,B⟩:=nV Tryz.underlying85 h
 obtain⟨y0,U⟩:=B 0 _ rfl
 obtain⟨y1,h1⟩:=B 1 _ rfl
 obtain⟨E,e0,J,M,O⟩:=(alz w).rd enc base held n _ _ U
 obtain⟨u,V,Z,Y,I⟩:=(Oe w).rd enc base held n _ _ h1
 obtain rfl:u=Z:=Y
 have p0:=ef (s:=1) e0
 have p1:=ef (s:=1) V
 have W:cs.drop 2=[]:=AF.2 (by rw[G];exact yQ (by kernel_rfl))
 refine⟨(⟨E,u⟩:jy),?_,(⟨J,u⟩:gP),⟨E,rfl,M⟩,O,I⟩
 have e:cs=cs.drop 0:=rfl
 rw[e]
 refine p0.trans ?_
 refine(gN _ p1).trans ?_
 exact(gN _ (gN _ W))⟩
def azs:zj hH 25 (List gP) (λys:(List gP)=>∀y∈ys,Eo y):=zj.slice Tryz.underlying25 (by kernel_rfl) azr
def rd27:zj hH 27 cE acn:=λw=>⟨by kernel_rfl,λenc base held fuel cs x h=>by
 obtain⟨O,n,u⟩:=nV Tryz.underlying27 h
 obtain⟨y0,h0⟩:=u 0 _ rfl
 obtain⟨y1,h1⟩:=u 1 _ rfl
 obtain⟨y2,h2⟩:=u 2 _ rfl
 obtain⟨y3,h3⟩:=u 3 _ rfl
 obtain⟨y4,h4⟩:=u 4 _ rfl
 obtain⟨y5,h5⟩:=u 5 _ rfl
 obtain⟨J,e0,W,d0,k0⟩:=(azp w).rd enc base held n _ _ h0
 obtain⟨I,e1,a1,d1,U⟩:=(aly w).rd enc base held n _ _ h1
 obtain⟨B,e2,V,d2,k2⟩:=(aly w).rd enc base held n _ _ h2
 obtain⟨G,e3,a3,d3,k3⟩:=(ast w).rd enc base held n _ _ h3
 obtain⟨M,Z,a4,d4,Y⟩:=(ast w).rd enc base held n _ _ h4
 obtain⟨E,e5,a5,d5,k5⟩:=(azs w).rd enc base held n _ _ h5
 have p0:=ef (s:=1) e0
 have p1:=ef (s:=1) e1
 have p2:=ef (s:=1) e2
 have p3:=ef (s:=1) e3
 have p4:=ef (s:=1) Z
 have p5:=ef (s:=1) e5
 have hz:cs.drop 6=[]:=AF.2 (by rw[O];exact yQ (by kernel_rfl))
 refine⟨(⟨J,I,B,G,M,E⟩:bP),?_,(⟨W,a1,V,a3,a4,a5⟩:cE),⟨J,I,B,G,M,E,rfl,d0,d1,d2,d3,d4,d5⟩,k0,U,k2,k3,Y,k5⟩
 have e:cs=cs.drop 0:=rfl
 rw[e]
 refine p0.trans ?_
 refine(gN _ p1).trans ?_
 refine(gN _ (gN _ p2)).trans ?_
 refine(gN _ (gN _ (gN _ p3))).trans ?_
 refine(gN _ (gN _ (gN _ (gN _ p4)))).trans ?_
 refine(gN _ (gN _ (gN _ (gN _ (gN _ p5))))).trans ?_
 exact(gN _ (gN _ (gN _ (gN _ (gN _ (gN _ hz))))))⟩
def azt:zj hH 41 (List Int) (λys:(List Int)=>∀y∈ys,eU y):=zj.slice Tryz.underlying41 (by kernel_rfl) Oe
def rd50:zj hH 50 aS aco:=λw=>⟨by kernel_rfl,λenc base held fuel cs x h=>by
 obtain⟨J,n,u⟩:=nV Tryz.underlying50 h
 obtain⟨y0,Z⟩:=u 0 _ rfl
 obtain⟨y1,h1⟩:=u 1 _ rfl
 obtain⟨y2,h2⟩:=u 2 _ rfl
 obtain⟨y3,h3⟩:=u 3 _ rfl
 obtain⟨G,e0,U,V,W⟩:=(Oe w).rd enc base held n _ _ Z
 obtain⟨E,e1,a1,d1,M⟩:=(Oe w).rd enc base held n _ _ h1
 obtain⟨B,Y,O,d2,k2⟩:=(Oe w).rd enc base held n _ _ h2
 obtain⟨I,e3,a3,d3,k3⟩:=(azt w).rd enc base held n _ _ h3
 obtain rfl:G=U:=V
 obtain rfl:E=a1:=d1
 obtain rfl:B=O:=d2
 have p0:=ef (s:=1) e0
 have p1:=ef (s:=1) e1
 have p2:=ef (s:=1) Y
 have p3:=ef (s:=1) e3
 have hz:cs.drop 4=[]:=AF.2 (by rw[J];exact yQ (by kernel_rfl))
 refine⟨(⟨G,E,B,I⟩:aI),?_,(⟨G,E,B,a3⟩:aS),⟨I,rfl,d3⟩,W,M,k2,k3⟩
 have e:cs=cs.drop 0:=rfl
 rw[e]
 refine p0.trans ?_
 refine(gN _ p1).trans ?_
 refine(gN _ (gN _ p2)).trans ?_
 refine(gN _ (gN _ (gN _ p3))).trans ?_
 exact(gN _ (gN _ (gN _ (gN _ hz))))⟩
def ae7(e:Tn):Prop:=eU e.a/\eU e.b/\eU e.c
def rd60:RdT hH 60 Tn ae7:=⟨by kernel_rfl,λenc w base u held fuel cs x h=>by
 obtain⟨xs,n,_,_,E,hs,M⟩:=DataW.trod_array Tryz.underlying60 h
 have hc:Tryz.prog.cellsOf 3=1:=by kernel_rfl
 have g:∀i,i<3->∃y,DataW.trod enc hH w base u held n 3 ((cs.drop i).take 1)=some y:=λi hi=>by
  have:=M i hi
  rw[hc,Nat.mul_one]at this
  exact⟨xs[i]'(cK),by rw[this,List.getElem?_eq_getElem cK]⟩
 obtain⟨y0,V⟩:=g 0 cK
 obtain⟨y1,h1⟩:=g 1 cK
 obtain⟨y2,h2⟩:=g 2 cK
 obtain⟨J,e0,O⟩:=asu.rd enc w base u held n _ _ V
 obtain⟨a1,W,G⟩:=asu.rd enc w base u held n _ _ h1
 obtain⟨I,U,k2⟩:=asu.rd enc w base u held n _ _ h2
 have s0:=ef (s:=1) e0
 have Z:=ef (s:=1) W
 have B:=ef (s:=1) U
 have Y:cs.drop 3=[]:=AF.2 (by rw[E];exact yQ (by kernel_rfl))
 refine⟨⟨J,a1,I⟩,?_,O,G,k2⟩
 have e:cs=cs.drop 0:=rfl
 rw[e]
 refine s0.trans ?_
 refine(gN _ Z).trans ?_
 refine(gN _ (gN _ B)).trans ?_
 exact(gN _ (gN _ (gN _ Y)))⟩
end Go.Proofs.YtpdlpabnlkofmaaGreatDoor
namespace Go.Fw
theorem gu.below{w w':World}(h:gu bD w w'):Go.RowKit.Below w.heap.size w w':=⟨h.1,h.2,h.3,h.4,λb hb=>h.5 b hb λx=>x⟩
end Go.Fw

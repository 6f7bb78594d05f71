/-
  Part 5.
-/
import Derived.Test.YtpdlpabnlkofmaaGreatDoorR10x4
set_option maxHeartbeats 8000000
set_option linter.all false
set_option maxRecDepth 100000
open Go.Fw.Flat renaming val->hM,enc->ia,sz->l1,len->xZ
open ByteArray renaming mk->hZ
open List renaming getElem?_eq_some_iff->ir,mem_of_getElem?->j0,take_of_length_le->kp,getElem?_eq_getElem->kE,length_append->kH,length_singleton->lH,length_take->lQ,length_map->mv,getElem?_eq_none->mC,append_assoc->mX,getD_eq_getElem?_getD->n0,mem_map->n4,length_cons->n5,mem_cons_self->ob,getElem?_map->og,append_nil->oj,mem_cons_of_mem->o4,replicate->po,length_eq_zero_iff->qa,mem_cons->sk,take_add_one->tK,any_eq_true->u4,range->v7,foldl_append->CK,range_succ->F1,getElem?_range->Gj,getElem?_drop->H5,getElem?_take->Is,flatMap_append->Kq,mem_flatMap->Pv
open Nat renaming zero_le->kO,le_refl->o5,le_trans->tx,le_of_ble_eq_true->Bz,lt_or_ge->O7,lt_succ_self->Px,mul_pos->abN
open Go.Instr renaming build->l0,sliceAt->nn,sliceBounds->vd,box->yg
open Option renaming bind_some->l2,some->n3,toList_some->IU
open Go.Value renaming int->mn,slice->ye
open Go.Fw.Deep renaming dr->mL
open Int renaming toNat_natCast->o6
open Decidable renaming not_not->u3
open Bool renaming true_and->Av,not_false->N9
namespace Go.Proofs.YtpdlpabnlkofmaaGreatDoor
open Go.Fw
def kV(l:List bG)(c:Int):Option Int:=(l.reverse.find? λx=>decide (x.kind=3/\x.cell=c)).map (·.n)
def C307(y U:Value)(b:Nat)(xs:List bG)(J:Nat->g7)(M:g7)(w:World)(hn:xs.length<=1073741824)
  (B:∀k W,J k W->Cell W b 0 U/\dz (λ_=>True) W U xs) (E:J 0 w)
  (Z:∀k x W,xs.reverse[k]?=some x->J k W->ko g6 y [hH ((xs.length:Int)-1-k),hM x] W λv I=>(v=.bool true/\J (k+1) I)\/(v=.bool false/\M I)) :
  CR 307 [y,.pointer (some ⟨b,0,none⟩)] w (λ_ W=>J xs.length W\/M W):=by
 refine aco _ _ _ _ ?_;unfold S307;refine bU iM (B 0 w E).1 (aH fS (B 0 w E).2 (fk bL ?_));refine⟨λm x u=>∃k:Nat,x=hH ((xs.length:Int)-1-k)/\m=xs.length-k/\k<=xs.length/\J k u,⟨_,0,ea,rfl,kO _,E⟩,?_⟩;rintro m _ u ⟨k,rfl,rfl,hk,O⟩ _;refine cR (aC (λc=>?_) λc=>?_)
 .obtain⟨h1,h2⟩:=B k u O;have nB:k<xs.length:=bL
  have V:xs.reverse[k]?=some (xs[xs.length-1-k]'(bL)):=cH
  refine bU iM h1 (aM fS h2 bL (x:=xs[xs.length-1-k]'(bL)) (by simp_all) λq Y=>aE ij Y ?_);obtain G:=Z k _ u V O;refine ko.mono G ?_;rintro v w2 (⟨rfl,BR⟩|⟨rfl,Hc⟩)
  .refine bP (fa (fk bL ?_))
   grind
  refine bP (gN ?_)
  grind
 grind
def C276(u:Value)(w:World)(h1:vK u=true):CR 276 [u] w (λv w'=>∃b,v=.func (.func 307) [].toArray [.pointer (some ⟨b,0,none⟩)].toArray/\kZ (bZ b [u]) w w'):=by
 have B:=St.start w;refine eU Tryz.func276 ?_;exact nd B h1 (λb _ B=>⟨b,rfl,B.fresh⟩)
theorem Hl{α:Type}{p:α->Bool}{l:List α}{k:Nat}{x:α}(I:∀y∈l.take k,p y=false)(B:l[k]?=some x)(G:p x=true):l.find? p=some x:=by
 rw[List.find?_eq_some_iff_getElem]
 have u:=(ir.1 B)
 obtain⟨J,E⟩:=u
 refine⟨G,k,J,E,λj M=>?_⟩
 have:=I (l[j]'(bL)) (List.mem_take_iff_getElem.2 ⟨j,bL,rfl⟩)
 simp[this]
def C226(p:Nat)(c room:Int)(l:List bG)(w:World)(hb:tO w p room l)(hn:l.length<=1048576) :
  CR 226 [.pointer (some ⟨p,0,none⟩),hH c] w (λv w'=>v=.tuple #[hH ((kV l c).getD 0),.bool (kV l c).isSome]/\Ext w w'):=by
 obtain⟨sv,CQ,vf,hL⟩:=hb;have u:=St.start w;refine eU Tryz.func226 ?_;refine nd u rfl (λb3 _ u=>gW u ue rfl λb4 _ u=>gW u Wz rfl λb5 _ u=>aD (aA ky (bU iM (vf.ext u.aF) (dO anB (C276 sv _ hL.one) ?_))));rintro _ _ ⟨b,rfl,cM⟩;have u:=u.made cM
 refine wy (cap:=[.pointer (some ⟨b,0,none⟩)]) (xs:=(v7 l.length).map fun (k:Nat)=>[mn .i64 ((l.length:Int)-1-k),hM ((l.reverse[k]?).getD ⟨0,0,0,0⟩)]) anN u
  (λk M=>M=[bZ b [sv],bZ b5 [.bool false],bZ b4 [hH 0],bZ b3 [hH c]]/\∀y∈l.reverse.take k,decide (y.kind=3/\y.cell=c)=false)
  (λcd M=>cd=.ret/\∃x,kV l c=some x/\M=[bZ b5 [.bool true],bZ b4 [hH x]])
  ⟨rfl,ea⟩ ea ?_ ?_ ?_ ?_ ?_ ?_
 ·
  intro y J Jx W hJ YY T1 hy;refine(C307 y sv b l J Jx W bL (λk W E=>?_) T1 λk x W G E=>?_).mono λ_ _ r=>r.mono λv W' h=>?_
  .obtain⟨Y,M,⟨rfl,_⟩,hS⟩:=hJ k W E;exact⟨hS.p1.hb.cell rfl,hL.ext hS.aF⟩
  .have O:=(ir.1 G).1;rw[List.length_reverse]at O;have:=hy k [mn .i64 ((l.length:Int)-1-k),hM x] W (by rw[og,Gj O];simp[G]) E;exact this
  simpa using h
 ·
  rintro k args Y1 Y2 B Kr M W E ⟨rfl,U⟩ hB hN hR u
  have O:k<l.length:=by
   have:=(ir.1 E).1
   simpa using this
  obtain⟨x,G⟩:∃x,l.reverse[k]?=some x:=⟨_,kE (by simpa using O)⟩
  have ha:args=[mn .i64 ((l.length:Int)-1-k),hM x]:=by
   rw[og,Gj O]at E;simp[G]at E;exact E.symm
  subst ha;dsimp only[DU];refine aQ u qY (λb7 _ u=>D1 u ij rfl cZ (by simp[vK,iV]) λ_ u=>?_);refine hB _ _ _ u.p1 (λw8 u=>?_);have e7:iV [mn IntKind.i64 0,hH 0,hH 0,hH 0] 0 [mn .i64 x.kind,hH x.line,hH x.cell,hH x.n]=ia x:=rfl;refine⟨_,?_,λ_ _ h=>h⟩;refine aA gE (aB bO u.p1.hb rfl (aG ?_))
  have no:¬ (x.kind=3/\x.cell=c)->Kr none w8:=λI=>by
   refine hN _ _ u.p1.drop.p0 ⟨rfl,?_⟩;exact dS U G (by simpa using I)
  refine aC (λV=>?_) (λV=>?_)
  .refine aA l4 (aB bO u.p1.hb rfl (aB bO u.p5.hb rfl (aG ?_)));intro qy;refine aC (λc2=>aA oF (aB bO u.p1.hb rfl (aV u.p4 bO (Bz rfl) rfl λ_ u=>aV u.p4 Gf (Bz rfl) rfl λ_ u=>hR _ [bZ b5 [.bool true],bZ b4 [hH x.n]] _ u.p5.drop.p4.drop.p3.drop.p2 ⟨rfl,x.n,?_,rfl⟩))) (λc2=>no λI=>c2 I.2);unfold kV;rw[Hl U G (by simpa using⟨V,c2⟩)];rfl
  intro qy;exact fa (no λI=>V I.1)
 ·
  rintro D M W ⟨rfl,U⟩ u;refine aV u.p3 bO (Bz rfl) rfl (λ_ u=>aV u.p3 Gf (Bz rfl) rfl λ_ u=>?_);refine D8 u.p2 (λZ u=>?_);refine aB bO u.p1.hb rfl (aB Gf u.hb rfl ?_)
  have:kV l c=none:=by
   unfold kV
   rw[show l.reverse.find? _=none from List.find?_eq_none.2 λy hy=>by
    have:=U y (by rw[kp ea];exact hy);simp only[this];exact Bool.false_ne_true]
   rfl
  rw[this];exact⟨rfl,u.aF⟩
 .rintro D M W ⟨_,x,hl,rfl⟩ u;refine D8 u (λZ u=>?_);refine aB bO u.p1.hb rfl (aB Gf u.hb rfl ?_);rw[hl];exact⟨rfl,u.aF⟩
 .rintro id D M W ⟨h,_⟩;cases h
 rintro c M ⟨h,_⟩;exact .inr h
theorem Jp{α:Type}(l:List α)(i:Nat):([]++l.take i)++l.drop (i+1)=l.eraseIdx i:=by
 grind
def Jq{α:Type}{xs ys:List α}{k:Nat}{e f:α}(h:xs.take k=ys.take k)(h1:xs[k]?=some e)(h2:ys[k]?=some f)(u:e=f):xs.take (k+1)=ys.take (k+1):=by
 rw[tK,tK,h,h1,h2,u]
def UC{α:Type}{xs ys:List α}{k:Nat}{e f:α}(h1:xs[k]?=some e)(h2:ys[k]?=some f)(u:¬ e=f):¬ xs=ys:=by
 grind
theorem PY{l:List bG}{c:Int}{k:Nat}{x:bG}(G:∀y∈l.drop (k+1),¬ (y.kind=3/\y.cell=c))(u:l[k]?=some x)(E:x.kind=3/\x.cell=c):kV l c=some x.n:=by
 unfold kV
 have I:=(ir.1 u).1
 rw[Hl (k:=l.length-1-k) (x:=x) ?_ ?_ cH]
 .rfl
 .intro y B
  have:y∈l.drop (k+1):=by
   rw[List.take_reverse]at B
   grind
  grind
 grind
theorem Qa{l:List bG}{c:Int}(u:∀y∈l,¬ (y.kind=3/\y.cell=c)):kV l c=none:=by
 grind[kV]
def SN{l:List bG}{c:Int}{k:Nat}{x:bG}(J:∀y∈l.drop (k+1),¬ (y.kind=3/\y.cell=c))(u:l[k]?=some x)(I:¬ (x.kind=3/\x.cell=c)):∀y∈l.drop k,¬ (y.kind=3/\y.cell=c):=by
 intro y B
 obtain⟨E,G⟩:=ir.1 u
 rw[List.drop_eq_getElem_cons E]at B
 grind
def aee{l:List bG}{i:Int}{k:Nat}{x y:bG}(B:0<=i)(h1:i<l.length)(u:l[i.toNat]?=some x)(E:k<i.toNat)(G:l[k]?=some y)(I:jN x y=false):q8 l i=false:=by
 rw[SK B h1 u]
 have:(l.take i.toNat).any (λy=>!jN x y)=true:=by
  rw[u4]
  exact⟨y,List.mem_iff_getElem?.2 ⟨k,cH⟩,cH⟩
 grind
def Zo{l:List bG}{i:Int}{x:bG}(B:0<=i)(h1:i<l.length)(u:l[i.toNat]?=some x)(E:∀y∈l.take i.toNat,jN x y=true):q8 l i=true:=by
 grind[q8]
def C49(room:Int)(w:World):CR 49 [hH room] w (λv w'=>((room<1\/16<room)/\v=.tuple #[.pointer none,hH 1]/\Ext w w')\/(1<=room/\room<=16/\∃b,v=.tuple #[.pointer (some ⟨b,0,none⟩),hH 0]/\kZ (iX b room []) w w')):=by
 have u:=St.start w;refine eU Tryz.func49 ?_;refine⟨_,?_,λ_ _ h=>h⟩;refine aO (aC (λB=>?_) λB=>?_)
 .intro E;exact gN (.inl ⟨bL,rfl,u.aF⟩)
 refine cP ?_;intro E;exact aC (λ_=>.inl ⟨bL,rfl,u.aF⟩) (λ_=>pop (WU _) (nf u λb _ u=>have u:=(u.eW (α:=bG)).p1;.inr ⟨bL,bL,b,rfl,(iX.shut u).fresh⟩))
def C58(room:Int)(w:World):CR 58 [hH room] w (λv w'=>((room<1\/16<room)/\v=.tuple #[.pointer none,hH 1]/\Ext w w')\/(1<=room/\room<=16/\∃b,v=.tuple #[.pointer (some ⟨b,0,none⟩),hH 0]/\kZ (iX b room []) w w')):=by
 have u:=St.start w;refine eU Tryz.func58 ?_;refine⟨_,?_,λ_ _ h=>h⟩;refine aO (aC (λB=>?_) λB=>?_)
 .intro E;exact gN (.inl ⟨bL,rfl,u.aF⟩)
 refine cP ?_;intro E;exact aC (λ_=>.inl ⟨bL,rfl,u.aF⟩) (λ_=>pop (WV _) (nf u λb _ u=>have u:=(u.eW (α:=bG)).p1;.inr ⟨bL,bL,b,rfl,(iX.shut u).fresh⟩))
def C71(V O:Value)(xs ys:List Int)(w:World)(E:dz (λ_=>True) w V xs)(U:dz (λ_=>True) w O ys)(hn:xs.length<=1073741824):CR 71 [V,O] w (λv w'=>v=.bool (decide (xs=ys))/\Ext w w'):=by
 have u:=St.start w;refine pJ Tryz.func71 (pl:=P71) ?_;refine aH cQ (E.ext u.aF) (aH cQ (U.ext u.aF) (bT (aC (λ_=>⟨vb (ej (by rintro rfl;omega)).symm,u.aF⟩) λgT=>?_)));refine⟨λm x M=>∃k:Nat,x=hH (k:Int)/\m=xs.length-k/\k<=xs.length/\xs.take k=ys.take k/\St w aY [] M,⟨_,0,rfl,rfl,kO _,rfl,u⟩,?_⟩;rintro m _ M ⟨k,rfl,rfl,Z,B,u⟩ _;refine aH cQ (E.ext u.aF) (aO (aC (λjC=>?_) λ_=>⟨vb (ei (by rw[kp bL,kp bL]at B;exact B)).symm,u.aF⟩));obtain⟨lP,I⟩:=gx xs (i:=(k:Int).toNat) bL
 refine aM cQ (E.ext u.aF) bL I (λ_ W=>have u:=u.drew;aE bO W ?_);obtain⟨qg,J⟩:=gx ys (i:=(k:Int).toNat) bL;exact aM cQ (U.ext u.aF) bL J (λ_ Y=>aE bO Y (bT (aC (λG=>⟨vb (ej (UC I J G)).symm,u.aF⟩) λG=>aJ bL ⟨xs.length-(k+1),bL,k+1,rfl,rfl,bL,Jq B I J (u3.1 G),u⟩)))
def C229(p:Nat)(c room:Int)(l:List bG)(w:World)(hb:tO w p room l)(hn:l.length<=1073741824):CR 229 [.pointer (some ⟨p,0,none⟩),hH c] w (λv w'=>v=.tuple #[hH ((kV l c).getD 0),.bool (kV l c).isSome]/\Ext w w'):=by
 obtain⟨sv,CQ,I,J⟩:=hb;have u:=St.start w;refine acd _ _ _ _ ?_;unfold S229;refine aD (aA iB (bU iM (I.ext u.aF) (aH fS (J.ext u.aF) (fk bL ?_))));refine⟨λm x V=>∃k:Nat,x=hH ((k:Int)-1)/\m=k/\k<=l.length/\(∀y∈l.drop k,¬ (y.kind=3/\y.cell=c))/\St w aY [] V,⟨_,l.length,rfl,rfl,o5 _,ea,u⟩,?_⟩;rintro k _ V ⟨_,rfl,rfl,hk,G,u⟩ _;refine cR (aC (λjC=>?_) λjC=>?_)
 .refine⟨_,?_,λ_ _ h=>h⟩;refine aD (aA iB (bU iM (I.ext u.aF) ?_));obtain⟨E,B⟩:=gx l (i:=((k:Int)-1).toNat) bL;refine aM fS (J.ext u.aF) bL B (λ_ wJ=>bW E.kind gE wJ rfl rfl λ_ qh=>aE bO qh (aG (aC (λO=>?_) λO=>?_)))
  .refine aD (aA iB (bU iM (I.ext u.aF) (aM fS (J.ext u.aF) bL B λ_ Z=>bW E.cell l4 Z rfl rfl λ_ W=>aE bO W (aG ?_))));intro Y;refine aC (λU=>?_) (λU=>fk bL ⟨k-1,bL,k-1,by congr 1;omega,rfl,bL,SN (x:=E) (by rw[show k-1+1=k from bL];exact G) (by rw[<- B];congr 1;omega) (λM=>U M.2),u⟩);refine aD (aA iB (bU iM (I.ext u.aF) (aM fS (J.ext u.aF) bL B λ_ vD=>bW E.n oF vD rfl rfl λ_ wW=>aE bO wW ?_)))
   rw[PY (k:=k-1) (x:=E) (by rw[show k-1+1=k from bL];exact G) (by rw[<- B];congr 1;omega) ⟨O,U⟩];exact⟨rfl,u.aF⟩
  intro Y;exact fa (fk bL ⟨k-1,bL,k-1,by congr 1;omega,rfl,bL,SN (x:=E) (by rw[show k-1+1=k from bL];exact G) (by rw[<- B];congr 1;omega) (λM=>O M.1),u⟩)
 rw[Qa (by rw[show k=0 from bL]at G;simpa using G)];exact⟨rfl,u.aF⟩
def C151(p:Nat)(i room:Int)(l:List bG)(w:World)(hb:tO w p room l)(hn:l.length<=1073741824):CR 151 [.pointer (some ⟨p,0,none⟩),hH i] w (λv w'=>v=.bool (q8 l i)/\Ext w w'):=by
 obtain⟨sv,CQ,I,J⟩:=hb;have u:=St.start w;refine pJ Tryz.func151 (pl:=au8) ?_;refine⟨_,?_,λ_ _ h=>h⟩;refine aO (aC (λgP=>?_) λgP=>?_)
 .intro qy;exact gN ⟨vb (lF bL).symm,u.aF⟩
 refine aD (aA iB (bU iM (I.ext u.aF) (aH fS (J.ext u.aF) (cR ?_))));intro qy;refine aC (λ_=>⟨vb (lF bL).symm,u.aF⟩) (λdP=>?_);refine⟨λm x O=>∃k:Nat,x=hH (k:Int)/\m=i.toNat-k/\(k:Int)<=i/\(∀x y,l[i.toNat]?=some x->y∈l.take k->jN x y=true)/\St w aY [] O,⟨_,0,rfl,rfl,bL,ea,u⟩,?_⟩;rintro m _ O ⟨k,rfl,rfl,hk,U,u⟩ _;refine aO (aC (λW=>?_) λW=>⟨vb (Zo (x:=l[i.toNat]'(bL)) bL bL (kE _) λy B=>U _ y (kE _) (by rw[show k=i.toNat from bL];exact B)).symm,u.aF⟩)
 refine aD (aA iB (have u:=u.drew;bU iM (I.ext u.aF) ?_));obtain⟨Y,E⟩:=gx l (i:=(i).toNat) bL;refine aM fS (J.ext u.aF) bL E (λ_ Z=>aE ij Z (aD (aA iB (bU iM (I.ext u.aF) ?_))));obtain⟨uE,G⟩:=gx l (i:=(k:Int).toNat) bL;refine aM fS (J.ext u.aF) bL G (λ_ wS=>aE ij wS (aS anj u (C222 _ _ _) λ_ he u=>bP (aX (λM=>⟨vb (aee bL bL E bL G (by simpa using M)).symm,u.aF⟩) λM=>aJ bL ?_)));refine⟨i.toNat-(k+1),bL,k+1,rfl,rfl,bL,λx y V B=>?_,u⟩
 rw[n3.inj (V.symm.trans E)]at *;exact dS (φ:=λy=>jN Y y=true) (λy B=>U _ y V B) G (by simpa using M) y B
def C81(p:Nat)(room:Int)(l:List bG)(w:World)(hb:tO w p room l)(Z:l.length<=1048576):CR 81 [.pointer (some ⟨p,0,none⟩)] w (λv w'=>kZ (bF v (o8 l)) w w'):=by
 have V:=hb;obtain⟨sv,CQ,O,U⟩:=hb;have u:=St.start w;refine eU Tryz.func81 ?_;refine aW ([]:List Int) u cQ rfl rfl (dM rfl) (λOU B u=>?_);refine⟨λm o x B=>∃k:Nat,x=hH (k:Int)/\m=l.length-k/\k<=l.length/\St w aY [bF o (si l k)] B,⟨_,0,rfl,rfl,kO _,u⟩,?_⟩;rintro m o _ B ⟨k,rfl,rfl,W,u⟩ _;have EO:=Hh l k;refine aD (aA iB (bU iM (O.ext u.aF) (aH fS (U.ext u.aF) (aO (aC (λI=>⟨_,aS afT u (C151 _ _ _ _ _ (V.ext u.aF) bL) (λ_ he u=>aX (λE=>?_) λE=>?_),λ_ _ h=>h⟩) λI=>?_)))))
 .refine aW ([(k:Int)]:List Int) u cQ rfl rfl (dM rfl) (λY _ u=>?_);have G:=u.dQ;refine bJ u.p1 cQ G (by simp<;>omega) cZ (λM _ u=>?_);have u:=u.p1.drop;intro J;exact aJ bL ⟨l.length-(k+1),bL,k+1,rfl,rfl,bL,by rw[Fb E];exact u⟩
 .intro J;exact aJ bL ⟨l.length-(k+1),bL,k+1,rfl,rfl,bL,by rw[Hi E];exact u⟩
 rw[Fc l bL]at u;exact u.fresh
def C230(p:Nat)(room:Int)(l:List bG)(x:bG)(F:Nat->Prop)(w:World)(J:(iX p room l).p w F)(U:l.length<=1048576):CR 230 [.pointer (some ⟨p,0,none⟩),hM x] w (λv w'=>v=hH (Mz room l x)/\mH F (iX p room (sj room l x)) w w'):=by
 have u:=St.begin J;obtain⟨W,u⟩:=u.ep;have u:=u.split;refine pJ Tryz.func230 (pl:=avm) ?_;refine cJ u (λO _ u=>aE ij u.At (aS anC u (C277 _ _) λ_ V u=>bP (aX (λB=>?_) λB=>aD (aA iB (have u:=u.drew;aB iM u.p1.hb rfl (aH fS u.p2.dQ (aD (aA WK (aB bO u.p1.hb rfl (cR (aC (λE=>?_) λE=>?_)))))))))))
 .have u:=u.p2.p2;rw[MA (by simpa using B),MC (by simpa using B)];exact⟨rfl,(iX.shut u).mut⟩
 .have u:=u.p2.p2;rw[Hj (by simpa using B) E,Hk E];exact⟨rfl,(iX.shut u).mut⟩
 refine aD (aA iB (have u:=u.drew;aB iM u.p1.hb rfl (aE ij u.At (aW ([x]) u fS rfl rfl (dM rfl) λG _ u=>?_))));refine⟨aI iM (u.p2.hb.cell rfl),?_⟩;have M:=u.dQ;refine bJ u.p3 fS M (by simp<;>omega) cZ (λI _ u=>have u:=u.p1.drop;aD (aA iB (aV u.p2 iM (dM rfl) u.dQ.one λ_ u=>?_)));have u:=u.p1.p1;rw[SL (by simpa using B) E,SM (by simpa using B) E];exact⟨rfl,(iX.shut u).mut⟩
def C165(p:Nat)(room:Int)(l:List bG)(i:Int)(F:Nat->Prop)(w:World)(V:(iX p room l).p w F)(hn:l.length<=1048576):CR 165 [.pointer (some ⟨p,0,none⟩),hH i] w (λv w'=>v=.tuple #[hM (dB l i),hH (wV l i)]/\mH F (iX p room (jF l i)) w w'):=by
 have u:=St.begin V;obtain⟨sv,u⟩:=u.ep;have u:=u.split;refine ab8 _ _ _ _ ?_;unfold S165;refine aQ u qY (λOX _ u=>?_);refine⟨_,?_,λ_ _ h=>h⟩;refine aO (aC (λje=>?_) λje=>?_)
 .intro qy;refine gN (pop xI (aK (x:=(⟨0,0,0,0⟩:bG)) u ij rfl rfl λU u=>aE ij u.At ?_));have u:=u.p2.p2;rw[ru (lF bL),xS bL,ry (lF bL)];exact⟨rfl,(iX.shut u).mut⟩
 refine aD (aA iB (aB iM u.p1.hb rfl (aH fS u.p2.dQ (cR ?_))));intro qy;refine aC (λW=>?_) (λW=>aS afT u (C151 _ _ _ _ _ (tO.mk' u.p1.hb u.p2.dQ) bL) λ_ he u=>bP (aX (λB=>?_) λB=>?_))
 .refine pop xI (aK (x:=(⟨0,0,0,0⟩:bG)) u ij rfl rfl λU u=>aE ij u.At ?_);have u:=u.p2.p2;rw[ru (lF bL),xS bL,ry (lF bL)];exact⟨rfl,(iX.shut u).mut⟩
 .refine pop xI (aK (x:=(⟨0,0,0,0⟩:bG)) u ij rfl rfl λ_ u=>aE ij u.At ?_);have u:=u.p2.p2;rw[ru (by simpa using B),MD bL (by simpa using B),ry (by simpa using B)];exact⟨rfl,(iX.shut u).mut⟩
 refine aD (aA iB (aB iM u.p1.hb rfl ?_));obtain⟨G,I⟩:=gx l (i:=(i).toNat) bL;refine dJ u.p2 fS bL bL (λ_ O=>fV u.p2 ij O I (aQ u qY λPX _ u=>aK (x:=G) u ij rfl rfl λ_ u=>aW ([]:List bG) u fS rfl rfl (dM rfl) λZ _ u=>aD (aA iB (aB iM u.p3.hb rfl (xC fS u.p4.dQ bL bL λaqo M=>?_)))));have E:=M;refine bJ u fS E (by simp<;>omega) cZ (λaqp _ u=>aD (aA iB (aB iM u.p3.hb rfl (aJ bL (BA fS u.p4.dQ bL bL λY AD=>?_)))))
 have J:=AD;refine bJ u fS J (by simp<;>omega) cZ (λaq7 _ u=>aD (aA iB (aV u.p3 iM (dM rfl) u.dQ.one λ_ u=>aE ij u.p2.At (aK (x:=G) u.p3 ij rfl rfl λ_ u=>aE ij u.At ?_))));have u:=u.p2.p2;rw[MF (by simpa using B) I,ME (by simpa using B),MG (by simpa using B),<- Jp,<- show(i+1).toNat=i.toNat+1 from bL];exact⟨rfl,(iX.shut u).mut⟩
structure Mem where
 of:List Int
 dY:List Int
 l:List Int
 kept:List Int
 fC:Int->List j4
def fR(of:List Int):Int:=if of.length=0 then 0 else of.getD (of.length-1) 0+1
def nA(k:List Int)(ws:List j4):List Int:=ws.foldl (λk w=>k.set w.cell.toNat w.n) k
theorem wX(ws:List j4):∀k:List Int,(nA k ws).length=k.length:=by
 induction ws with
 | nil=>intro k;rfl
 | cons x ws u=>simp_all[nA]
theorem B3(ws:List j4)(x:j4)(k:List Int):nA k (ws++[x])=(nA k ws).set x.cell.toNat x.n:=by
 unfold nA;grind
theorem Hm{ws:List j4}{j:Nat}{x:j4}{k:List Int}(u:ws[j]?=some x):nA k (ws.take (j+1))=(nA k (ws.take j)).set x.cell.toNat x.n:=by
 rw[tK,u];exact B3 _ _ _
def Gk(m:Mem)(cell:Int):Bool:=decide (0<=cell/\cell<m.l.length)
def fe(m:Mem)(cell n:Int):Mem:=if Gk m cell=true then {m with l:=m.l.set cell.toNat n,fC:=if cell<m.of.length then px m.fC (m.of.getD cell.toNat 0) (m.fC (m.of.getD cell.toNat 0)++[⟨cell,n⟩])else m.fC}else m
def Ff(m:Mem)(line:Int):Bool:=decide (0<=line/\line<fR m.of)
def nQ(m:Mem)(line:Int):Mem:=if Ff m line=true then {m with kept:=nA m.kept (m.fC line),fC:=px m.fC line []}else m
structure uR(m:Mem):Prop where
 J6:m.of.length<=m.dY.length
 fl:m.dY.length<=20
 ll:m.l.length=m.dY.length
 kl:m.kept.length=m.of.length
 ofr:∀n∈m.of,0<=n/\n<fR m.of
 lb:fR m.of<=20
 pc:∀k,∀x∈m.fC k,0<=x.cell/\x.cell<m.of.length
def MB(m:Mem)(n:Nat):Prop:=∀k,(m.fC k).length<=n
def iE(p:Nat)(ov fv:Value)(m:Mem):HP:=pZ λlv=>pZ λkv=>pZ λpm=>sep (bZ p [ov,fv,lv,kv,.map (some pm)]) (sep (bF lv m.l) (sep (bF kv m.kept) (qL pm m.fC)))
def AW(ov fv:Value)(m:Mem)(w:World):Prop:=dz (λ_=>True) w ov m.of/\dz (λ_=>True) w fv m.dY
def yk(w:World)(p:Nat)(m:Mem):Prop:=∃ov fv lv kv pm,Cell w p 0 ov/\Cell w p 1 fv/\Cell w p 2 lv/\Cell w p 3 kv/\Cell w p 4 (.map (some pm))/\dz (λ_=>True) w ov m.of/\dz (λ_=>True) w fv m.dY/\dz (λ_=>True) w lv m.l/\dz (λ_=>True) w kv m.kept/\vA w pm m.fC
section
variable {w w' w0:World}{A F:Nat->Prop}{R:List HP}{p:Nat}{ov fv lv kv:Value}{m:Mem}{pm:Nat}
theorem yk.ext(h:yk w p m)(e:Ext w w'):yk w' p m:=by
 obtain⟨ov,fv,lv,kv,pm,E,I,J,B,u,G,h1,h2,h3,h4⟩:=h
 exact⟨ov,fv,lv,kv,pm,E.ext e,I.ext e,J.ext e,B.ext e,u.ext e,G.ext e,h1.ext e,h2.ext e,h3.ext e,h4.ext e⟩
theorem yk.mk'(h:qx w p [ov,fv,lv,kv,.map (some pm)])(u:AW ov fv m w)(h2:dz (λ_=>True) w lv m.l)(h3:dz (λ_=>True) w kv m.kept)(h4:vA w pm m.fC):yk w p m:=
 ⟨ov,fv,lv,kv,pm,h.cell rfl,h.cell rfl,h.cell rfl,h.cell rfl,h.cell rfl,u.1,u.2,h2,h3,h4⟩
theorem iE.open(u:St w0 A (iE p ov fv m::R) w):∃lv kv pm,St w0 A (bZ p [ov,fv,lv,kv,.map (some pm)]::bF lv m.l::bF kv m.kept::qL pm m.fC::R) w:=by
 obtain⟨lv,u⟩:=u.ep;obtain⟨kv,u⟩:=u.ep;obtain⟨pm,u⟩:=u.ep
 have h1:=u.split
 have h2:=h1.p1.split
 have h3:=h2.p1.split
 exact⟨lv,kv,pm,h3.p2.p3⟩
theorem iE.shut(u:St w0 A (bZ p [ov,fv,lv,kv,.map (some pm)]::bF lv m.l::bF kv m.kept::qL pm m.fC::R) w):St w0 A (iE p ov fv m::R) w:=by
 have h1:St w0 A (sep (bF kv m.kept) (qL pm m.fC)::bZ p [ov,fv,lv,kv,.map (some pm)]::bF lv m.l::R) w:=St.join u.p3.p3
 have h2:St w0 A (sep (bF lv m.l) (sep (bF kv m.kept) (qL pm m.fC))::bZ p [ov,fv,lv,kv,.map (some pm)]::R) w:=St.join h1.p2
 exact St.er lv (St.er kv (St.er pm (St.join h2.p1)))
theorem Jr(u:St w0 A (iE p ov fv m::R) w)(B:AW ov fv m w):yk w p m:=by
 obtain⟨lv,kv,pm,u⟩:=iE.open u
 exact yk.mk' u.hb B u.p1.dQ u.p2.dQ u.p3.XL
end
def C148(p:Nat)(m:Mem)(w:World)(J:yk w p m)(B:uR m):CR 148 [(.pointer (some ⟨p,0,none⟩))] w (λv w'=>v=hH (fR m.of)/\Ext w w'):=by
 have Hn:=J;obtain⟨ov,fv,lv,kv,pm,I,W,c2,c3,c4,E,Of,hL,M,hP⟩:=J;have J7:=B.fl;have Y:=B.J6;have V:=B.ll;have Ep:=B.kl;have Z:=B.lb;have u:=St.start w;refine pJ Tryz.func148 (pl:=au7) ?_;refine aD (aA wm (bU eP (I.ext u.aF) (aH cQ (E.ext u.aF) (aG (aC (λ_=>⟨ez (mn .i64) (by unfold fR;rw[ee bL]),u.aF⟩) λfN=>aD (aA wm (have u:=u.drew;bU eP (I.ext u.aF) (aD (aA wm (bU eP (I.ext u.aF) (aH cQ (E.ext u.aF) (fk bL ?_))))))))))));obtain⟨lP,G⟩:=gx m.of (i:=((m.of.length:Int)-1).toNat) bL
 refine aM cQ E bL G (λ_ U=>aE bO (U.ext u.aF) ?_);have O:=B.ofr _ (j0 G);exact aJ bL ⟨ez (mn .i64) (by unfold fR;rw[eb bL,n0,show m.of.length-1=((m.of.length:Int)-1).toNat from bL,G];rfl),u.aF⟩
def C227(p:Nat)(m:Mem)(cell:Int)(w:World)(E:yk w p m)(Z:uR m):CR 227 [(.pointer (some ⟨p,0,none⟩)),hH cell] w (λv w'=>v=.tuple #[hH (if Gk m cell=true then m.l.getD cell.toNat 0 else 0),hH (if Gk m cell=true then 0 else 1)]/\Ext w w'):=by
 have Hn:=E;obtain⟨ov,fv,lv,kv,pm,c0,Y,J,c3,c4,hO,Of,I,M,hP⟩:=E;have u:=St.start w;refine eU Tryz.func227 ?_;refine⟨λU w'=>U=.bool (decide (cell<0\/m.l.length<=cell))/\w=w',aO (aC (λ_=>⟨Ko bL,rfl⟩) λ_=>aD (aA rK (bU eP (J.ext u.aF) (aH cQ (I.ext u.aF) (cR ⟨xB bL,rfl⟩))))),?_⟩;rintro _ _ ⟨rfl,O⟩ _;subst O;refine aC (λW=>?_) (λW=>?_)
 .have B:Gk m cell=false:=by unfold Gk;rw[decide_eq_false_iff_not];omega
  rw[B];exact⟨rfl,u.aF⟩
 refine aD (aA rK (bU eP (J.ext u.aF) ?_));obtain⟨CE,G⟩:=gx m.l (i:=cell.toNat) bL;refine aM cQ I bL G (λ_ V=>aE bO (V.ext u.aF) ?_);have B:Gk m cell=true:=by unfold Gk;rw[decide_eq_true_eq];omega
 rw[B,n0,G];exact⟨rfl,u.aF⟩
def C144(p:Nat)(m:Mem)(w:World)(E:yk w p m)(B:uR m):CR 144 [(.pointer (some ⟨p,0,none⟩))] w (λv w'=>kZ (bF v m.l) w w'):=by
 have Y:=E;obtain⟨ov,fv,lv,kv,pm,c0,O,J,Z,c4,hO,Of,I,G,hP⟩:=E;have W:=B.fl;have U:=B.J6;have M:=B.ll;have Ep:=B.kl;have V:=B.lb;have u:=St.start w;refine eU Tryz.func144 ?_;exact aD (aA rK (bU eP (J.ext u.aF) (ef TT u (C83 _ _ _ (I.ext u.aF) bL) λ_ _ _ u=>u.fresh)))
def C145(p:Nat)(m:Mem)(w:World)(G:yk w p m)(B:uR m):CR 145 [(.pointer (some ⟨p,0,none⟩))] w (λv w'=>kZ (bF v m.kept) w w'):=by
 have W:=G;obtain⟨ov,fv,lv,kv,pm,c0,M,c2,I,Z,hO,Of,hL,E,Y⟩:=G;have V:=B.fl;have O:=B.J6;have J:=B.ll;have Ep:=B.kl;have U:=B.lb;have u:=St.start w;refine eU Tryz.func145 ?_;exact aD (aA Af (bU eP (I.ext u.aF) (ef TT u (C83 _ _ _ (E.ext u.aF) bL) λ_ _ _ u=>u.fresh)))
def C156(p:Nat)(ov fv:Value)(m:Mem)(F:Nat->Prop)(cell n:Int)(w:World)(Z:(iE p ov fv m).p w F)(M:∀w',gC F w w'->AW ov fv m w')(G:uR m)(hb:MB m 1000000):CR 156 [(.pointer (some ⟨p,0,none⟩)),hH cell,hH n] w (λv w'=>v=hH (if Gk m cell=true then 0 else 1)/\mH F (iE p ov fv (fe m cell n)) w w'):=by
 have u:=St.begin Z;obtain⟨lv,kv,pm,u⟩:=iE.open u;have J7:=G.fl;have I4:=G.J6;have BG:=G.ll;have Ep:=G.kl;have Ly:=G.lb;refine pJ Tryz.func156 (pl:=au9) ?_;refine⟨λW w'=>W=.bool (decide (cell<0\/m.l.length<=cell))/\w=w',aO (aC (λ_=>⟨Ko bL,rfl⟩) λ_=>aD (aA rK (aB eP u.hb rfl (aH cQ u.p1.dQ (cR ⟨xB bL,rfl⟩))))),?_⟩;rintro _ _ ⟨rfl,U⟩ _;subst U;refine aC (λlz=>?_) (λlz=>?_)
 .have u:=u.p3.p3.p3.p3;have E:Gk m cell=false:=by unfold Gk;rw[decide_eq_false_iff_not];omega
  unfold fe;rw[E];exact⟨rfl,(iE.shut u).mut⟩
 have E:Gk m cell=true:=by unfold Gk;rw[decide_eq_true_eq];omega
 refine aD (aA rK (aB eP u.hb rfl ?_));obtain⟨SO,Fg⟩:=gx m.l (i:=cell.toNat) bL;refine dJ u.p1 cQ bL bL (λ_ Mh=>jj _ u.p1 bO Mh bL λ_ u=>⟨λw'=>St w F [iE p ov fv (fe m cell n)] w',aD (aA wm (aB eP u.p1.hb rfl (aH cQ (M _ u.aF).1 (aO (aC (λjU=>?_) λjU=>?_))))),?_⟩)
 .refine aD (aA wm (aB eP u.p1.hb rfl ?_));obtain⟨I,O⟩:=gx m.of (i:=cell.toNat) bL;refine aM cQ (M _ u.aF).1 bL O (λ_ Y=>aE bO Y (aD (aA rL (have u:=u.drew;aB yt u.p1.hb rfl (aD (aA rL (aB yt u.p1.hb rfl ?_)))))));have hbx:=hb I;obtain⟨J,u⟩:=u.p3.LI (k:=I);refine⟨_,u.p1.BL Tryz.underlying185 KL Ag,?_⟩;refine pop (OK _ _) (aW ([(⟨cell,n⟩:j4)]) u Ct rfl rfl (dM rfl) λao5 _ u=>?_);refine⟨aI yt (u.p4.hb.cell rfl),?_⟩;refine⟨aI yt (u.p4.hb.cell rfl),?_⟩
  refine⟨u.p2.BL Tryz.underlying185 KL Ag,?_⟩;have Pc:=u.dQ;refine bJ u.p1 Ct Pc (by simp;omega) cZ (λV _ u=>?_);have u:=u.p1.drop;refine⟨aI yt (u.p3.hb.cell rfl),?_⟩;obtain⟨Fh,rfl⟩:=u.fQ;have u:=u.p1.p1;refine LJ u Tryz.underlying185 KL (λ_ u=>?_);have u:=u.p3.p2.p3;have B:fe m cell n={m with l:=m.l.set cell.toNat n,fC:=px m.fC I (m.fC I++[⟨cell,n⟩])}:=by unfold fe;rw[ee E,ee bL,n0,O];rfl
  rw[B];exact iE.shut (m:={m with l:=_,fC:=_}) u
 .have u:=u.p3.p3.p2.p3;have B:fe m cell n={m with l:=m.l.set cell.toNat n}:=by unfold fe;rw[ee E,eb bL]
  rw[B];exact iE.shut (m:={m with l:=_,fC:=_}) u
 intro _ u _;exact⟨by rw[E];rfl,u.mut⟩
def SP(m:Mem)(cut:List Int):Bool:=decide ((cut.length:Int)=fR m.of)&&(v7 cut.length).all λi=>decide (0<=cut.getD i 0/\cut.getD i 0<=(m.fC i).length)
def oo(m:Mem)(cut:List Int)(k:Nat):List Int:=(v7 k).foldl (λo (i:Nat)=>nA o ((m.fC i).take (cut.getD i 0).toNat)) m.kept
def fh(m:Mem)(cut:List Int):Option (List Int):=if SP m cut=true then some (oo m cut cut.length)else none
theorem uF(m:Mem)(cut:List Int)(k:Nat):oo m cut (k+1)=nA (oo m cut k) ((m.fC k).take (cut.getD k 0).toNat):=by
 unfold oo;rw[F1,CK];rfl
theorem mq(m:Mem)(cut:List Int):∀k,(oo m cut k).length=m.kept.length
 | 0=>rfl
 | k+1=>by rw[uF,wX,mq]
def MH{m:Mem}{cut:List Int}{k:Nat}{c:Int}(hc:cut[k]?=some c)(h:¬ (0<=c/\c<=(m.fC k).length)):fh m cut=none:=by
 unfold fh;grind[SP,oo]
def MI{m:Mem}{cut:List Int}(h:(cut.length:Int)≠fR m.of):fh m cut=none:=by
 unfold fh SP;grind
def xU{m:Mem}{cut:List Int}(h:(cut.length:Int)=fR m.of)(hc:∀(k:Nat) (c:Int),k<cut.length->cut[k]?=some c->0<=c/\c<=(m.fC k).length):fh m cut=some (oo m cut cut.length):=by
 unfold fh;grind[SP,oo]
def Fi(m:Mem)(n:Nat):List Nat:=(v7 n).map fun (i:Nat)=>(m.fC i).length
theorem Fj{m:Mem}{n i:Nat}(h:i<n):(Fi m n)[i]?=some (m.fC i).length:=by
 unfold Fi;rw[og,Gj h];rfl
def mr(m:Mem)(u:List Int):Mem:={m with kept:=u,l:=u++m.dY.drop u.length,fC:=λ_=>[]}
def C157(p:Nat)(ov fv:Value)(m:Mem)(F:Nat->Prop)(line:Int)(w:World)(Z:(iE p ov fv m).p w F)(Y:∀w',gC F w w'->AW ov fv m w')(B:uR m)(hb:MB m 1000000):CR 157 [(.pointer (some ⟨p,0,none⟩)),hH line] w (λv w'=>v=hH (if Ff m line=true then 0 else 1)/\mH F (iE p ov fv (nQ m line)) w w'):=by
 have u:=St.begin Z;obtain⟨lv,kv,pm,u⟩:=iE.open u;have J7:=B.fl;have I4:=B.J6;have BG:=B.ll;have Ep:=B.kl;have Ly:=B.lb;refine pJ Tryz.func157 (pl:=ava) ?_;refine⟨λW w'=>W=.bool (decide (line<0\/fR m.of<=line))/\St w F [bZ p [ov,fv,lv,kv,.map (some pm)],bF lv m.l,bF kv m.kept,qL pm m.fC] w',aO (aC (λ_=>⟨vb (by first|exact(ei bL).symm|exact ew.2 bL),u⟩) λ_=>aS afS u (C148 _ m _ (yk.mk' u.hb (Y _ u.aF) u.p1.dQ u.p2.dQ u.p3.XL) B) λ_ _ u=>cR ⟨vb (by first|exact(ei bL).symm|exact ew.2 bL),u⟩),?_⟩
 rintro _ _ ⟨rfl,u⟩ _;refine aC (λjC=>?_) (λjC=>?_)
 .have u:=u.p3.p3.p3.p3;have E:Ff m line=false:=by unfold Ff;rw[decide_eq_false_iff_not];omega
  unfold nQ;rw[E];exact⟨rfl,(iE.shut u).mut⟩
 refine aD (aA rL (aB yt u.hb rfl ?_));obtain⟨O,u⟩:=u.p3.LI (k:=line);refine⟨_,u.p1.BL Tryz.underlying185 KL Ag,?_⟩;have GW:=hb line;refine aH Ct u.dQ ?_;have u:=u.p3.p3.p4.p4.p4;refine⟨λM x V=>∃k:Nat,x=hH (k:Int)/\M=(m.fC line).length-k/\k<=(m.fC line).length/\St w F [bF (hM O) (m.fC line),LH pm m.fC line O,bF kv (nA m.kept ((m.fC line).take k)),bZ p [ov,fv,lv,kv,.map (some pm)],bF lv m.l] V,⟨_,0,rfl,rfl,kO _,u⟩,?_⟩;rintro M _ _ ⟨k,rfl,rfl,u9,u⟩ _;refine aO (aC (λmR=>?_) λmR=>?_)
 .obtain⟨G,I⟩:=gx (m.fC line) (i:=(k:Int).toNat) bL;refine dJ u Ct bL bL (λ_ Ax=>?_);have U:=B.pc line _ (j0 I);refine fV u RN Ax I (aQ u RO λJ _ u=>aK (x:=G) u RN rfl rfl λ_ u=>aD (aA Af (have u:=u.drew;aB eP u.p4.hb rfl (aA Lb ?_))));have Xw:=wX ((m.fC line).take k) m.kept;refine aB (v:=hH G.cell) bO u.hb rfl (aA Lc (aB (v:=hH G.n) bO u.hb rfl ?_));obtain⟨uE,oQ⟩:=gx (nA m.kept ((m.fC line).take k)) (i:=G.cell.toNat) bL
  exact dJ u.p3 cQ bL bL (λ_ wS=>jj _ u.p3 bO wS bL λ_ u=>aJ bL (have u:=u.p1.drop.p4.p4.p2.p4.p4;⟨_,bL,k+1,rfl,rfl,bL,by rw[Hm (j:=k) I];exact u⟩))
 rw[kp bL]at u;refine aD (aA rL (aB yt u.p3.hb rfl ?_));have u:=u.p1.p1.XM;rw[Ui]at u;refine LK u rfl Tryz.underlying185 KL (λ_ _ u=>?_);have u:=u.p1.p3.p3;have E:Ff m line=true:=by unfold Ff;rw[decide_eq_true_eq];omega
 have Qc:nQ m line={m with kept:=nA m.kept (m.fC line),fC:=px m.fC line []}:=by unfold nQ;rw[ee E]
 rw[Qc,E];exact⟨rfl,(iE.shut (m:={m with kept:=_,fC:=_}) u).mut⟩
def C150(p:Nat)(m:Mem)(cut:List Int)(cv:Value)(w:World)(hm:yk w p m)(E:uR m)(hb:MB m 1000000)(V:dz (λ_=>True) w cv cut)(Qd:cut.length<=1000):CR 150 [(.pointer (some ⟨p,0,none⟩)),cv] w (λv w'=>(fh m cut=none/\v=.tuple #[.slice none 0 0,hH 1]/\Ext w w')\/∃kK o,fh m cut=some kK/\v=.tuple #[o,hH 0]/\kZ (bF o kK) w w'):=by
 have Z:=hm;obtain⟨ov,fv,lv,kv,pm,c0,c1,c2,c3,c4,hO,Of,hL,hKp,hP⟩:=hm;have J7:=E.fl;have I4:=E.J6;have BG:=E.ll;have Ep:=E.kl;have Ly:=E.lb;have u:=St.start w;refine eU Tryz.func150 ?_;refine aH cQ (V.ext u.aF) (aS afS u (C148 _ m _ (Z.ext u.aF) E) λM he u=>bT (aC (λ_=>.inl ⟨MI bL,rfl,u.aF⟩) λjd=>ef am7 u (C145 _ m _ (Z.ext u.aF) E) λI _ cM u=>aH cQ (V.ext u.aF) ?_));refine⟨λG x M=>∃k:Nat,x=hH (k:Int)/\G=cut.length-k/\k<=cut.length/\(∀(i:Nat) (c:Int),i<k->cut[i]?=some c->0<=c/\c<=(m.fC i).length)/\St w aY [bF I (oo m cut k)] M,⟨_,0,rfl,rfl,kO _,λ_ _ h=>absurd h bL,u⟩,?_⟩
 rintro G _ w3 ⟨k,rfl,rfl,u9,jK,u⟩ _;refine aO (aC (λkC=>?_) λ_=>.inr ⟨_,_,xU bL (λi c _ hc=>jK i c bL hc),rfl,by rw[show cut.length=k from bL];exact u.fresh⟩);obtain⟨B,O⟩:=gx cut (i:=(k:Int).toNat) bL;refine aM cQ V bL O (λ_ qh=>aE bO (qh.ext u.aF) ⟨λjv w'=>jv=.bool (decide (B<0\/(m.fC k).length<B))/\w3=w',aO (aC (λ_=>⟨Ko bL,rfl⟩) λ_=>aD (aA rL (bU yt (c4.ext u.aF) (G4 hP u.aF Tryz.underlying185 KL Ag λ_ wS=>aH Ct (wS.ext u.aF) (cP ⟨xB bL,rfl⟩))))),?_⟩)
 rintro _ _ ⟨rfl,hw⟩ _;subst hw;refine aC (λ_=>.inl ⟨MH (k:=k) O bL,rfl,u.aF⟩) (λoM=>aD (aA rL (bU yt (c4.ext u.aF) (G4 hP u.aF Tryz.underlying185 KL Ag λagW vD=>?_))));have hbk:=hb k;have OD:((m.fC k).take B.toNat).length<=(m.fC k).length:=by rw[lQ];omega
 refine j1 Ct (vD.ext u.aF) bL bL (λaqJ PM=>?_);have Jh:=PM _ vD;refine aH Ct (Jh.ext u.aF) ?_;refine⟨λG x M=>∃j:Nat,x=hH (j:Int)/\G=((m.fC k).take B.toNat).length-j/\j<=((m.fC k).take B.toNat).length/\St w aY [bF I (nA (oo m cut k) (((m.fC k).take B.toNat).take j))] M,⟨_,0,rfl,rfl,kO _,u⟩,?_⟩;rintro G _ _ ⟨j,rfl,rfl,hj,u⟩ _;refine aO (aC (λwP=>?_) λwP=>?_)
 .obtain⟨J,W⟩:=gx ((m.fC (k:Int)).take B.toNat) (i:=(j:Int).toNat) bL;refine aM Ct Jh bL W (λ_ L9=>?_);have hpc:=E.pc k _ (List.mem_of_mem_take (j0 W));refine aE RN (L9.ext u.aF) (aQ u RO λY _ u=>aK (x:=J) u RN rfl rfl λ_ u=>aA Lb ?_);have Xw:=wX (((m.fC k).take B.toNat).take j) (oo m cut k);have hil:=mq m cut k;refine aB (v:=hH J.cell) bO u.hb rfl (aA Lc (aB (v:=hH J.n) bO u.hb rfl ?_));obtain⟨U,axR⟩:=gx (nA (oo m cut k) (((m.fC k).take B.toNat).take j)) (i:=J.cell.toNat) bL
  exact dJ u.p1 cQ bL bL (λ_ MJ=>jj _ u.p1 bO MJ bL λ_ u=>aJ bL (have u:=u.p1.drop;⟨_,bL,j+1,rfl,rfl,bL,by rw[Hm (j:=j) W];exact u⟩))
 rw[kp (i:=j) bL]at u;refine aJ bL ⟨_,bL,k+1,rfl,rfl,bL,λi c hi hc=>?_,?_⟩
 .by_cases e:i=k
  .subst e;obtain rfl:=n3.inj (hc.symm.trans O);omega
  exact jK i c bL hc
 rw[uF,n0,show cut[k]?=some B from O];exact u
def C86(p:Nat)(ov fv:Value)(m:Mem)(F:Nat->Prop)(cut:List Int)(cv:Value)(w:World)(hF:(iE p ov fv m).p w F)(V:∀w',gC F w w'->AW ov fv m w')(E:uR m)(hb:MB m 1000000)(hC:∀w',gC F w w'->dz (λ_=>True) w' cv cut)(Qd:cut.length<=1000):CR 86 [(.pointer (some ⟨p,0,none⟩)),cv] w (λv w'=>(fh m cut=none/\v=hH 1/\mH F (iE p ov fv m) w w')\/∃W,fh m cut=some W/\v=hH 0/\mH F (iE p ov fv (mr m W)) w w'):=by
 have u:=St.begin hF;obtain⟨lv,kv,pm,u⟩:=iE.open u;have J7:=E.fl;have I4:=E.J6;have BG:=E.ll;have Y:=E.kl;have Ly:=E.lb;refine pJ Tryz.func86 (pl:=P86) ?_;refine dO am8 (C150 _ m cut _ _ (yk.mk' u.hb (V _ u.aF) u.p1.dQ u.p2.dQ u.p3.XL) E hb (hC _ u.aF) bL) ?_;rintro G _ M
 rcases M with⟨B,rfl,he⟩|⟨U,I,B,rfl,Z⟩
 .have u:=u.ext he;exact aN rfl (aN rfl (bT (lL cZ (have u:=u.p3.p3.p3.p3;.inl ⟨B,rfl,(iE.shut u).mut⟩))))
 have u:=u.made Z;refine aN rfl (aN rfl (bT (fF cZ (aD (aA Af (aV u.p1 eP (dM rfl) u.dQ.one λ_ u=>aD (aA rK (have u:=u.drew;aB eP u.hb rfl (aD (aA WJ (aB eP u.hb rfl ?_)))))))))));refine LL u.p2 cQ (V _ u.aF).2 bL (λ_ u=>aD (aA rK (aB eP u.p1.hb rfl (LL u cQ u.p2.dQ (by rw[kH,List.length_drop];have O:U.length=m.of.length:=(by unfold fh at B;split at B<;>simp at B;rw[<- B,mq];exact Y);omega) λ_ u=>AH (α:=j4) u λJ _ u=>aD (aA rL (aV u.p2 yt (dM rfl) (rfl) λ_ u=>?_))))))
 have u:=u.p4.drop.p4.drop.p1.p3.p3.p3;have O:U.length=m.of.length:=by unfold fh at B;split at B<;>simp at B;rw[<- B,mq];exact Y
 rw[show m.l.drop m.dY.length=[]from List.drop_eq_nil_of_le bL,oj]at u;exact .inr ⟨_,B,rfl,(iE.shut (m:=mr m U) u).mut⟩
def Jt(of:List Int)(stays:Int)(dY:List Int):Mem:=⟨of.take stays.toNat,dY,dY,dY.take stays.toNat,λ_=>[]⟩
def ek:List Nat->List (List Int)
 | []=>[[]]
 | p::ps=>(v7 (p+1)).flatMap fun (i:Nat)=>(ek ps).map λt=>(i:Int)::t
theorem wY:∀{ps:List Nat}{c:List Int},c∈ek ps->c.length=ps.length
 | [],c,h=>by simp[ek]at h;grind
 | p::ps,c,h=>by
  simp only[ek,Pv,n4]at h
  obtain⟨i,_,t,ht,rfl⟩:=h
  simp[wY ht]
theorem B4:∀{ps:List Nat}{c:List Int}{i p:Nat}{n:Int},c∈ek ps->ps[i]?=some p->c[i]?=some n->0<=n/\n<=p
 | [],c,i,p,n,h,u,_=>by simp at u
 | q::ps,c,i,p,n,h,u,hc=>by
  simp only[ek,Pv,n4,List.mem_range]at h
  obtain⟨j,B,t,ht,rfl⟩:=h
  cases i with
  | zero=>grind
  | succ i=>
   rw[List.getElem?_cons_succ]at u hc
   exact B4 ht u hc
def Gl(f:List Int->List Int)(l:List (List Int)):List (List Int)×List (List Int):=l.foldl (λs c=>if f c∈s.2 then s else(s.1++[c],s.2++[f c])) ([],[])
theorem wZ(f:List Int->List Int)(l:List (List Int))(c:List Int):Gl f (l++[c])=if f c∈(Gl f l).2 then Gl f l else((Gl f l).1++[c],(Gl f l).2++[f c]):=by
 unfold Gl;grind
theorem MK(f:List Int->List Int):∀(l:List (List Int)) (s:List (List Int)×List (List Int)),(l.foldl (λs c=>if f c∈s.2 then s else(s.1++[c],s.2++[f c])) s).1.length<=s.1.length+l.length
 | [],s=>o5 _
 | c::l,s=>by
  rw[List.foldl_cons]
  refine tx (MK f l _) ?_
  grind
def Ju(f:List Int->List Int)(l:List (List Int)):(Gl f l).1.length<=l.length:=by
 have h:(Gl f l).1.length<=([]:List (List Int)).length+l.length:=MK f l ([],[])
 grind
def UD(xs:List Int):List Int:=xs++po (20-xs.length) 0
def ML(m:Mem)(c:List Int):List Int:=UD (oo m c c.length)
def vT(m:Mem):List Nat:=Fi m (fR m.of).toNat
def AX(m:Mem):List (List Int):=(Gl (ML m) (ek (vT m))).1
theorem Dt(m:Mem):(vT m).length=(fR m.of).toNat:=by unfold vT Fi;simp
def mM{m:Mem}(u:uR m):0<=fR m.of:=by
 unfold fR;split
 .omega
 rename_i h
 have B:m.of.getD (m.of.length-1) 0∈m.of:=cH
 have:=(u.ofr _ B).1
 omega
def C53(of dY:List Int)(stays:Int)(av bv:Value)(w:World)(E:dz (λ_=>True) w av of)(I:dz (λ_=>True) w bv dY)(hlen:of.length=dY.length)(J7:of.length<=20)(iS:0<=stays/\stays<=of.length)(F3:∀(k:Nat) (n:Int),(k:Int)<stays->of[k]?=some n->(n=tj of k\/(0<k/\n=tj of k-1))/\-10<=n/\n<=100):CR 53 [av,hH stays,bv] w (λv w'=>∃(p:Nat) (ov fv:SV),v=.tuple #[.pointer (some ⟨p,0,none⟩),hH 0]/\kZ (sep (bF (hM ov) (of.take stays.toNat)) (sep (bF (hM fv) dY) (iE p (hM ov) (hM fv) (Jt of stays dY)))) w w'):=by
 have u:=St.start w;refine eU Tryz.func53 ?_;refine⟨λU w'=>U=.bool (decide (of.length≠dY.length\/20<of.length\/stays<0\/of.length<stays))/\w=w',aH cQ (E.ext u.aF) (aH cQ (I.ext u.aF) (bT (aC (λ_=>⟨Ko bL,rfl⟩) λ_=>aH cQ (E.ext u.aF) (cP (aC (λ_=>⟨Ko bL,rfl⟩) λ_=>aO (aC (λ_=>⟨Ko bL,rfl⟩) λ_=>aH cQ (E.ext u.aF) (cP ⟨xB bL,rfl⟩))))))),?_⟩;rintro _ w1 ⟨rfl,M⟩ _;subst M;refine aC (λlO=>absurd lO bL) (λlO=>j1 cQ (E.ext u.aF) bL bL λW ajH=>?_);have Zr:=ajH _ E
 refine aH cQ (Zr.ext u.aF) ?_;refine⟨λmm l x w1=>∃(k:Nat) (last:Int),l=hH last/\x=hH (k:Int)/\mm=(of.take stays.toNat).length-k/\k<=(of.take stays.toNat).length/\last=tj of k-1/\-200<=last/\last<=200/\St w aY [] w1,⟨_,0,-1,rfl,rfl,rfl,kO _,rfl,bL,bL,u⟩,?_⟩;rintro mm _ _ w2 ⟨k,last,rfl,rfl,rfl,u9,hlast,hl7,hl8,u⟩ _;have OD:(of.take stays.toNat).length=stays.toNat:=by rw[lQ];omega
 refine aO (aC (λoM=>?_) λoM=>?_)
 .obtain⟨G,vh⟩:=gx (of.take stays.toNat) (i:=(k:Int).toNat) bL;refine aM cQ Zr bL vh (λ_ wL=>?_)
  have B:of[k]?=some G:=by
   have J:=vh;rw[Is]at J
   split at J
   .exact J
   .cases J
  obtain⟨hl1,Ga,hl3⟩:=F3 k _ bL B;refine aE bO (wL.ext u.aF) ⟨λU w'=>U=.bool (decide (G≠last+1/\(k=0\/G≠last)))/\w2=w',aJ bL (bT (aC (λ_=>aG (aC (λ_=>⟨Ko bL,rfl⟩) λ_=>bT ⟨xB bL,rfl⟩)) λ_=>⟨Wf bL,rfl⟩)),?_⟩;rintro _ _ ⟨rfl,M⟩ _;subst M;refine aC (λCx=>absurd Cx (by have:=F3 k G bL B;simp;omega)) (λCx=>?_);have hws:tj of (k+1)=G+1:=by unfold tj;rw[eb bL,Nat.add_sub_cancel,n0,B];rfl
  exact aJ bL ⟨_,bL,k+1,G,rfl,rfl,rfl,bL,bL,bL,bL,u⟩
 refine j1 cQ (E.ext u.aF) bL bL (λaq9 Y=>?_);have V:=Y _ E;refine ef TT u (C83 _ _ _ (V.ext u.aF) (by first|omega|(rw[lQ];omega))) (λx59 _ cM u=>ef TT u (C83 _ _ _ (I.ext u.aF) (by first|omega|(rw[lQ];omega))) λx61 _ cM u=>ef TT u (C83 _ _ _ (I.ext u.aF) (by first|omega|(rw[lQ];omega))) λx63 _ cM u=>AH (α:=j4) u λb_x64 _ u=>?_);obtain⟨ajL,rfl⟩:=u.p3.fQ;obtain⟨Z,rfl⟩:=u.p2.fQ;obtain⟨axS,rfl⟩:=u.p1.fQ;refine pop (D6 _ _ _ _ _ _ _ _ _ _) (nf u λO _ u=>j1 cQ (I.ext u.aF) bL bL λag9 ajN=>?_)
 have ajO:=ajN _ I;exact ef TT u (C83 _ _ _ (ajO.ext u.aF) (by first|omega|(rw[lQ];omega))) (λ_ _ _ u=>aD (aA Af (aV u.p1 eP (dM rfl) u.dQ.one λ_ u=>have u:=iE.shut (m:=Jt of stays dY) u.p4.p5.p4.p4.p5.p5;⟨O,ajL,Z,rfl,(St.join (St.join u.p2).p1).fresh⟩)))
def aef:List Int->Int->Int
 | [],n=>n
 | c::cs,n=>aef cs (Bl (Bl (n*10000)+c))
def qn(l:List Int)(k:Nat):Int:=aef (l.take k) 0
theorem Ho:∀(l:List Int) (c n:Int),aef (l++[c]) n=Bl (Bl (aef l n*10000)+c)
 | [],_,_=>rfl
 | x::l,c,n=>Ho l c _
theorem Fk{l:List Int}{k:Nat}{c:Int}(h:l[k]?=some c):qn l (k+1)=Bl (Bl (qn l k*10000)+c):=by
 unfold qn;rw[tK,h];exact Ho _ _ _
def lR(p q:bV):Bool:=decide (q.kind=p.kind)&&decide (q.t=p.t)&&decide (q.i=p.i)&&decide (p.cut.length=0)
def pk3(s:SV):bN:=⟨3,0,0,s⟩
theorem aeg{w:World}{u:List SV}{cs:List (List Int)}(h:gu u cs w):gu (u.map pk3) (cs.map λc=>(⟨3,0,0,c⟩:bV)) w:=by
 refine⟨by simp[h.1],λi t x a b=>?_⟩
 rw[og]at a b
 cases hs:u[i]? with
 | none=>rw[hs]at a;cases a
 | some s=>
  cases hc:cs[i]? with
  | none=>rw[hc]at b;cases b
  | some c=>
   rw[hs]at a;rw[hc]at b
   simp at a b;subst a b
   exact⟨s,rfl,h.2 i s c hs hc⟩
def C154(W fv:Value)(xs:List bV)(φ:bV->Prop)(g:bV->Bool)(w:World)(hL:DL w W xs)(hf:tg g6 w fv φ g)(hφ:∀x∈xs,φ x)(hn:xs.length<=1073741824):CR 154 [W,fv] w (λv w'=>v=hH (rS g xs)/\Ext w w'):=by
 obtain⟨g0,first,cap,rfl,oy,jP⟩:=hf;have u:=St.start w;refine eU Tryz.func154 ?_;obtain⟨O,B,E⟩:=hL.open;have M:=E.1;refine aH jL (B.ext u.aF) ?_;refine⟨λm x J=>∃k:Nat,x=hH (k:Int)/\m=xs.length-k/\k<=xs.length/\(∀y∈xs.take k,g y=false)/\St w aY [] J,⟨_,0,rfl,rfl,kO _,ea,u⟩,?_⟩;rintro m _ J ⟨k,rfl,rfl,hk,I,u⟩ _;refine aO (aC (λje=>?_) λ_=>⟨ez (mn .i64) (iT (by rw[kp bL]at I;exact I)).symm,u.aF⟩);obtain⟨g8,V⟩:=gx O (i:=(k:Int).toNat) bL;obtain⟨yD,G⟩:=gx xs (i:=(k:Int).toNat) bL
 obtain⟨UE,rfl,Z⟩:=E.2 _ _ _ V G;refine aM jL B bL V (λ_ Y=>aE rF (Y.ext u.aF) (gS oy (jP _ yD J u.aF ⟨UE,rfl,(Z.ext u.aF)⟩ (hφ _ (j0 G))) ?_));rintro _ _ ⟨rfl,he⟩;have u:=u.ext he;exact aX (λU=>⟨ez (mn .i64) (lM I G U).symm,u.aF⟩) (λU=>aJ bL ⟨_,bL,k+1,rfl,rfl,bL,dS I G U,u⟩)
def C89(B fv:Value)(xs:List bV)(φ:bV->Prop)(g:bV->Bool)(w:World)(G:DL w B xs)(E:tg g6 w fv φ g)(I:∀x∈xs,φ x)(J:xs.length<=1073741824):CR 89 [B,fv] w (λv w'=>v=.bool (xs.any g)/\Ext w w'):=by
 have u:=St.start w;refine eU Tryz.func89 ?_;exact aS ana u (C154 _ _ _ _ _ _ (G.ext u.aF) (E.ext u.aF) I bL) (λ_ _ u=>cR ⟨vb (kD _ _),u.aF⟩)
def js(m:Mem)(c:Int):Int:=if Gk m c=true then m.l.getD c.toNat 0 else 0
def ahc(p:Nat)(m:Mem)(c:Int)(w:World)(B:yk w p m)(u:uR m):CR 227 [.pointer (some ⟨p,0,none⟩),hH c] w (λv w'=>v=.tuple #[hH (js m c),hH (if Gk m c=true then 0 else 1)]/\Ext w w'):=C227 p m c w B u
def Hp(m:Mem)(c n:Int):(fe m c n).of=m.of:=by unfold fe;grind
def tP(m:Mem)(c n:Int):(fe m c n).dY=m.dY:=by unfold fe;grind
def aeh(m:Mem)(c:Int):(nQ m c).of=m.of:=by unfold nQ;grind
def MM(m:Mem)(c:Int):(nQ m c).dY=m.dY:=by unfold nQ;grind
def AW.write{ov fv:Value}{m:Mem}{w:World}{c n:Int}(h:AW ov fv m w):AW ov fv (fe m c n) w:=by grind[AW,fe]
theorem AW.out{ov fv:Value}{m:Mem}{w:World}{c:Int}(h:AW ov fv m w):AW ov fv (nQ m c) w:=by grind[AW,nQ]
def jG(m:Mem)(x:bG):Mem:=if x.kind=3 then fe m x.cell x.n else if x.kind=7 then m else nQ m x.line
def sO(t:Int)(x:bG):bX:=if x.kind=3 then⟨12,t,x.cell,x.n,0⟩else if x.kind=7 then⟨14,t,0,0,0⟩else⟨13,t,x.line,0,0⟩
end Go.Proofs.YtpdlpabnlkofmaaGreatDoor
namespace Go.Fw
def m8(F:Nat->Prop)(w0 w':World):Prop:=∀b,F b->w'.heap[b]?=w0.heap[b]?
section
variable {α σ:Type}[Flat σ] [D:Deep α σ] {w w0:World}{A F:Nat->Prop}{L:List HP}{v:Value}{xs:List α}{ts us:List σ}
theorem St.Hq{Φ:g7}(u:St w0 A (Fw.eH Φ::L) w):∃F,St w0 A (Fw.eH (m8 F w)::L) w/\∀w',m8 F w w'->Φ w':=by
 obtain⟨U,F,J,B,G,M,E,I⟩:=u.tF
 exact⟨F,⟨u.aF,U,F,J,⟨λw' h=>h,B.2⟩,G,M,E,I⟩,λw' h=>B.1 w' h⟩
theorem m8.refl(F:Nat->Prop)(w:World):m8 F w w:=λ_ _=>rfl
theorem MN(B:∀x y:σ,ia x=ia y->x=y):∀{ts us:List σ},ts.length=us.length->flat ts=flat us->ts=us
 | [],[],_,_=>rfl
 | t::ts,u::us,hl,h=>by
  rw[kr,kr]at h
  have:=List.append_inj h (by rw[xZ,xZ])
  rw[B _ _ this.1,MN B cH this.2]
 | [],_::_,hl,_=>by simp at hl
 | _::_,[],hl,_=>by simp at hl
theorem dz.func{S U:Nat->Prop}(B:∀x y:σ,ia x=ia y->x=y)(h:dz S w v ts)(W:dz U w v us):ts=us:=by
 obtain⟨a,cap,rfl,hc,h3⟩:=h
 obtain⟨a',D2,M,V,u⟩:=W
 simp only[ye.injEq]at M
 obtain⟨rfl,J,rfl⟩:=M
 refine MN B J (List.ext_getElem? λj=>?_)
 have tG:(flat ts).length=(flat us).length:=by rw[dF,dF,J]
 by_cases Y:j<(flat ts).length
 .have G:j<(flat us).length:=bL
  rcases h3 with⟨rfl,_⟩|⟨b,o,rfl,_,h5⟩
  .grind
  rcases u with⟨rfl,_⟩|⟨b',o',I,_,E⟩
  .grind
  simp only[n3.injEq,Addr.mk.injEq,and_true]at I
  obtain⟨rfl,rfl⟩:=I
  have O:=h5 j _ (kE Y)
  have Z:=E j _ (kE G)
  unfold Cell at O Z
  grind
 grind
theorem m8.rd(h:∀w',m8 F w w'->DL w' v xs)(G:dz (λ_=>True) w v ts)(hn:ts.length=xs.length):∀w',m8 F w w'->dz (λ_=>True) w' v ts:=by
 intro w' M
 have FZ:=G
 obtain⟨a,cap,rfl,hc,h3⟩:=G
 rcases h3 with⟨h3,h4⟩|⟨b,o,rfl,h4,h5⟩
 .grind[dz]
 cases ts with
 | nil=>exact⟨_,cap,rfl,hc,.inr ⟨b,o,rfl,λh=>absurd rfl h,λj c B=>by simp[lW]at B⟩⟩
 | cons t ts=>
  by_cases W:F b
  .exact⟨_,cap,rfl,hc,.inr ⟨b,o,rfl,λ_=>trivial,λj c B=>(h5 j c B).of_eq (M b W)⟩⟩
  .exfalso
   have h6:DL (ChangeMaps.setBlock w b (.map #[] 0)) (.slice (some ⟨b,o,none⟩) (t::ts).length cap) xs:=h _ λY O=>by
    simp only[ChangeMaps.setBlock];grind
   obtain⟨us,⟨a',D2,J,_,V⟩,Z,_⟩:=h6
   simp only[ye.injEq]at J
   obtain⟨rfl,I,rfl⟩:=J
   have CS:0<(flat us).length:=by rw[dF,<- I];exact abN ea (Flat.pos (α:=σ))
   rcases V with⟨rfl,_⟩|⟨Y,o',E,_,U⟩
   .simp at I
   .simp only[n3.injEq,Addr.mk.injEq,and_true]at E
    obtain⟨rfl,rfl⟩:=E
    have u:=U 0 _ (kE CS)
    have hb:=(h5 0 _ (kE (by rw[dF];exact abN ea (Flat.pos (α:=σ))))).lt
    unfold Cell World.cell? at u
    dsimp only at u
    rw[jX _ hb]at u
    simp at u
theorem m8.fix(B:∀x y:σ,ia x=ia y->x=y)(h:∀w',m8 F w w'->DL w' v xs):∃ts:List σ,ts.length=xs.length/\∀w',m8 F w w'->dz (λ_=>True) w' v ts/\gu ts xs w':=by
 obtain⟨ts,G,hd⟩:=(h w (m8.refl F w)).open
 refine⟨ts,hd.1,λw' E=>?_⟩
 have h1:=m8.rd h G hd.1 w' E
 obtain⟨us,u,I⟩:=(h w' E).open
 rw[dz.func B h1 u]at *
 grind
end
section
variable {P:Program}{T:Nat}{cx cy:Bool}{a b:Int}{K:Value->Prop}
theorem Zs(h:0<=a-b/\a-b<=255)(k:K (.int .u8 (a-b))):eM P (ji .sub T cx cy (.int .u8 a) (.int .u8 b)) K:=
 ⟨_,(show pr P (ji .sub T cx cy (.int .u8 a) (.int .u8 b))=some (.int .u8 (a-b))from by
  show some (mn .u8 (IntKind.u8.wrap (a-b)))=_
  have:IntKind.u8.wrap (a-b)=a-b:=by
   unfold IntKind.wrap;simp[IntKind.bits,IntKind.signed];omega
  rw[this]),k⟩
theorem UG{src u:TypeId}(h1:P.underlying src=some (.int .u8))(h2:P.underlying u=some (.int .i64))(h:0<=a/\a<=255)(k:K (hH a)):eM P (convert src u (.int .u8 a)) K:=by
 refine⟨_,?_,k⟩
 unfold convert
 simp only[cT,cS h1,cS h2,l2]
 show some (mn .i64 (IntKind.i64.wrap a))=_
 rw[IntWalk.i64_in _ bL]
end
end Go.Fw
namespace Go.Proofs.YtpdlpabnlkofmaaGreatDoor
open Go.Fw
abbrev PD:=List (Bk×Bool)
def jh(b:Bk)(e:Bool)(p:PD):PD:=match b with
 | .nil=>p
 | .cons x c d r=>(.cons x c d r,e)::p
def gy:PD->PD
 | (.cons _ _ _ r,_)::p=>jh r false p
 | (.nil,_)::p=>p
 | []=>[]
def oR:PD->Option (bK×Bk×Bk)
 | (.cons x a b _,_)::_=>some (x,a,b)
 | _=>none
def mu(x:bK)(a:Bk)(p:PD):PD:=if x.n=0 then gy p else jh a false ((.cons {x with n:=x.n-1} a .nil .nil,true)::gy p)
def kc:PD->PD
 | []=>[]
 | (_,e)::p=>if e=true then p else kc p
structure jJ where
 names:List ByteArray
 dN:List Int
 cC:PD
 fault:Int
 buf:List bG
def eD(t:jJ)(l:List bY):Int×Bool:=if l.length=0 then(0,true)else((qA t.names t.dN l).1,decide ((qA t.names t.dN l).2=0))
def oS(t:jJ)(s:ByteArray)(n:Int):jJ:={t with dN:=t.dN.set (cU t.names s).toNat n}
def qo(t:jJ)(x:bK)(a b:Bk)(n:Int):jJ×Bool:=
 if x.kind=1 then({oS t x.eB n with cC:=gy t.cC},true)
 else if x.kind=11 then({t with cC:=jh (if n=0 then b else a) false (gy t.cC)},true)
 else if x.kind=12 then({t with cC:=mu x a t.cC},true)
 else if x.kind=13 then({t with cC:=kc t.cC},true)
 else if x.kind=14 then(if n=0 then({t with fault:=1},false)else({t with cC:=gy t.cC},true))
 else(t,false)
def qp(t:jJ):jJ×Bool:=match oR t.cC with
 | none=>(t,false)
 | some (x,a,b)=>if (eD t x.e).2=true/\(eD t x.f).2=true then qo t x a b (eD t x.e).1 else({t with fault:=2},false)
def sP:Nat->jJ->Option jJ
 | 0,_=>none
 | n+1,t=>if (qp t).2=true then sP n (qp t).1 else some (qp t).1
def lG:Bk->Nat
 | .nil=>0
 | .cons x a b r=>(if x.kind=12 then x.n.toNat*(lG a+1)else lG a+lG b)+lG r+1
def gU(p:PD):Nat:=(p.map λq=>lG q.1).sum
theorem pE(q:Bk×Bool)(p:PD):gU (q::p)=lG q.1+gU p:=by simp[gU]
def CY(φ:bK->Prop):Bk->Prop
 | .nil=>True
 | .cons x a b r=>φ x/\CY φ a/\CY φ b/\CY φ r
theorem UH{φ:bK->Prop}:∀t:Bk,CY φ t↔∀x∈t.flat,φ x:=by
 intro t
 induction t with
 | nil=>simp[CY,Bk.flat]
 | cons x a b r B E u=>
  simp only[CY,Bk.flat,B,E,u,sk,List.mem_append]
  grind
structure F4(φ:bK->Prop)(p:PD):Prop where
 ne:∀q∈p,q.1≠.nil
 st:∀q∈p,q.1.str
 al:∀q∈p,CY φ q.1
section
variable {φ:bK->Prop}{p:PD}{b:Bk}{e:Bool}
theorem F4.tail{q:Bk×Bool}(h:F4 φ (q::p)):F4 φ p:=⟨λq u=>h.ne q (o4 _ u),λq u=>h.st q (o4 _ u),λq u=>h.al q (o4 _ u)⟩
theorem F4.push(h:F4 φ p)(G:b.str)(B:CY φ b):F4 φ (jh b e p):=by
 cases b with
 | nil=>exact h
 | cons x c d r=>
  refine⟨?_,?_,?_⟩<;>intro q u<;>rcases sk.1 u with rfl|u
  .intro E;cases E
  .exact h.ne q u
  .exact G
  .exact h.st q u
  .exact B
  .exact h.al q u
theorem F4.pop(h:F4 φ p):F4 φ (gy p):=by
 match p,h with
 | [],h=>exact h
 | (.nil,_)::p,h=>exact h.tail
 | (.cons x a b r,_)::p,h=>
  have B:=h.st _ (ob ..)
  have u:=h.al _ (ob ..)
  exact h.tail.push B.2.2.2.2.2.2 u.2.2.2
theorem F4.leave:∀{p:PD},F4 φ p->F4 φ (kc p)
 | [],h=>h
 | (_,e)::p,h=>by
  unfold kc;split
  .exact h.tail
  .exact h.tail.leave
theorem Hr{x:bK}{a b:Bk}(h:oR p=some (x,a,b)):∃r e u,p=(.cons x a b r,e)::u:=by
 match p,h with
 | (.cons y c d r,e)::u,h=>cases h;grind
theorem Hs(u:F4 φ p)(h:oR p=none):p=[]:=by
 match p,u,h with
 | [],_,_=>rfl
 | (.nil,_)::_,u,_=>exact absurd rfl (u.ne _ (ob ..))
theorem sn:gU (jh b e p)=lG b+gU p:=by
 cases b with
 | nil=>simp[jh,lG]
 | cons x c d r=>exact pE _ _
theorem MO:∀p:PD,gU (kc p)<=gU p
 | []=>o5 _
 | (b,e)::p=>by
  have:=MO p
  grind[gU,kc]
theorem UI(h:b≠.nil):1<=lG b:=by
 cases b with
 | nil=>grind
 | cons x c d r=>unfold lG;omega
theorem Du(h:F4 φ p):p.length<=gU p:=by
 induction p with
 | nil=>simp
 | cons q p u=>
  have:=UI (h.ne q (ob ..))
  have:=u h.tail
  rw[pE,n5];omega
theorem so{x:bK}{a b r:Bk}:lG (.cons x a b r)=(if x.kind=12 then x.n.toNat*(lG a+1)else lG a+lG b)+lG r+1:=rfl
theorem Qe{x:bK}{a b r:Bk}{u:PD}(h:p=(.cons x a b r,e)::u):gU (gy p)+1<=gU p:=by
 subst h
 show gU (jh r false u)+1<=_
 rw[sn,pE,so];omega
end
structure sq(φ:bK->Prop)(t:jJ):Prop where
 p:F4 φ t.cC
 rl:t.dN.length=t.names.length
 nb:t.names.length<=1000
 bl:t.buf.length<=1000
 cl:gU t.cC<=10000
structure UJ(cs ls ns:List ByteArray)(x:bK):Prop where
 k:1<=x.kind/\x.kind<=14
 e:x.e.length<=1000/\x.f.length<=1000
 n:x.kind=12->0<=x.n/\x.n<=1000
 el:¬ x.kind=11->x.eo<=0
 rg:x.kind=1\/x.kind=2\/x.kind=4->0<=cU ns x.eB
 cl:x.kind=2\/x.kind=3\/x.kind=4->0<=cU cs x.name
 lk:x.kind=9\/x.kind=10->0<=cU ls x.name
 nm:(∀y∈x.e,y.name.size<=1000)/\∀y∈x.f,y.name.size<=1000
abbrev xV(cs ls:List ByteArray)(t:jJ):Prop:=sq (UJ cs ls t.names) t
section
variable {φ:bK->Prop}{cs ls:List ByteArray}{t t' tR:jJ}{x:bK}{a b:Bk}{n:Int}{k:Nat}
theorem sq.cC{p:PD}(h:sq φ t)(u:F4 φ p)(hc:gU p<=gU t.cC):sq φ {t with cC:=p}:=⟨u,h.rl,h.nb,h.bl,tx hc h.cl⟩
theorem sq.flt(h:sq φ t)(n:Int):sq φ {t with fault:=n}:=⟨h.p,h.rl,h.nb,h.bl,h.cl⟩
theorem sq.set(h:sq φ t)(s:ByteArray)(n:Int):sq φ (oS t s n):=⟨h.p,by simp[oS,h.rl],h.nb,h.bl,h.cl⟩
theorem sq.top(h:sq φ t)(ht:oR t.cC=some (x,a,b)):φ x/\a.str/\b.str/\CY φ a/\CY φ b/\x.body=a.len/\x.eo=b.len/\a.len<=40/\∃r e p,t.cC=(.cons x a b r,e)::p/\r.str/\CY φ r:=by
 obtain⟨r,e,p,u⟩:=Hr ht
 have h1:=h.p
 rw[u]at h1
 obtain⟨Y,E,M,B,O,U,I⟩:=h1.st _ (ob ..)
 obtain⟨W,V,J,G⟩:=h1.al _ (ob ..)
 grind
theorem aei(h:xV cs ls t)(ht:oR t.cC=some (x,a,b)):xV cs ls (qo t x a b n).1/\(qo t x a b n).1.names=t.names/\((qo t x a b n).2=true->gU (qo t x a b n).1.cC+1<=gU t.cC):=by
 obtain⟨B,V,sb,W,ab,hb,he,Z,r,e,p,I,sr,ar⟩:=h.top ht
 have E:=h.p.pop
 have M:=Qe (r:=r) I
 have u:gU t.cC=lG (.cons x a b r)+gU p:=by rw[I,pE]
 have O:gy t.cC=jh r false p:=by rw[I];rfl
 have J:gU (gy t.cC)=lG r+gU p:=by rw[O,sn]
 rw[so]at u
 unfold qo
 split
 .exact⟨(h.set x.eB n).cC E (by show gU (gy t.cC)<=gU t.cC;omega),rfl,λ_=>M⟩
 split
 .rename_i Uu
  rw[eb bL]at u
  have hc:gU (jh (if n=0 then b else a) false (gy t.cC))+1<=gU t.cC:=by rw[sn];grind
  refine⟨h.cC (F4.push E ?_ ?_) bL,rfl,λ_=>hc⟩<;>split<;>assumption
 split
 .rename_i Uu
  rw[ee Uu]at u
  have hxn:=B.n Uu
  have Lg:=B.el bL
  unfold mu
  split
  .exact⟨h.cC E bL,rfl,λ_=>M⟩
  rename_i XC
  have U:gU (jh a false ((.cons {x with n:=x.n-1} a .nil .nil,true)::gy t.cC))+1<=gU t.cC:=by
   rw[sn,pE,so,ee (by exact Uu),u,J]
   have e:x.n.toNat=(x.n-1).toNat+1:=bL
   rw[e,Nat.succ_mul]
   show lG a+((x.n-1).toNat*(lG a+1)+lG .nil+1+_)+1<=_
   simp only[lG];omega
  refine⟨h.cC (F4.push ⟨?_,?_,?_⟩ V W) bL,rfl,λ_=>U⟩<;>intro q G<;>rcases sk.1 G with rfl|G
  .grind
  .exact E.ne q G
  .exact⟨hb,by show x.eo=((0:Nat):Int);omega,Z,kO _,V,trivial,trivial⟩
  .exact E.st q G
  .exact⟨⟨B.k,B.e,λhk=>⟨cH,cH⟩,B.el,B.rg,B.cl,B.lk,B.nm⟩,W,trivial,trivial⟩
  exact E.al q G
 split
 .have hl:gU (kc t.cC)+1<=gU t.cC:=by
   rw[u,I];unfold kc
   have:=MO p
   grind
  exact⟨h.cC h.p.leave bL,rfl,λ_=>hl⟩
 split
 .split
  .exact⟨h.flt 1,rfl,λY=>by cases Y⟩
  exact⟨h.cC E bL,rfl,λ_=>M⟩
 grind
theorem Dv(h:xV cs ls t):xV cs ls (qp t).1/\(qp t).1.names=t.names/\((qp t).2=true->gU (qp t).1.cC+1<=gU t.cC):=by
 unfold qp
 cases ht:oR t.cC with
 | none=>grind
 | some q=>
  obtain⟨x,a,b⟩:=q
  dsimp only
  split
  .exact aei h ht
  .exact⟨h.flt 2,rfl,λu=>by cases u⟩
theorem Ht:∀(n:Nat) {t:jJ},xV cs ls t->gU t.cC<n->∃tR,sP n t=some tR/\xV cs ls tR/\tR.names=t.names
 | 0,_,_,hc=>by omega
 | n+1,t,h,hc=>by
  obtain⟨h1,h2,h3⟩:=Dv h
  unfold sP
  split
  .rename_i hs
   have:=h3 hs
   have h4:xV cs ls (qp t).1:=by have:=h1;rw[xV,h2]at this |-;exact this
   obtain⟨tR,E,u,B⟩:=Ht n h4 bL
   exact⟨tR,E,u,B.trans h2⟩
  grind
def goD(t:jJ):jJ:=(sP (gU t.cC+1) t).getD t
theorem qq(h:xV cs ls t):sP (gU t.cC+1) t=some (goD t)/\xV cs ls (goD t)/\(goD t).names=t.names:=by
 obtain⟨tR,E,u,B⟩:=Ht (gU t.cC+1) h (Px _)
 unfold goD
 grind
theorem Hu{n:Nat}(h:sP n t=some tR):∃k,n=k+1:=by
 cases n with
 | zero=>cases h
 | succ k=>grind
theorem SQ(h:sP (k+1) t=some tR)(u:qp t=(t',true)):sP k t'=some tR:=by
 unfold sP at h;rw[u]at h;exact h
theorem oT(h:sP (k+1) t=some tR)(u:qp t=(t',false)):tR=t':=by
 unfold sP at h;rw[u]at h;exact(n3.inj h).symm
theorem SR:∀(n:Nat) {t tR:jJ},sP n t=some tR->xV cs ls t->tR.fault=0->∀x a b,oR tR.cC=some (x,a,b)->(2<=x.kind/\x.kind<=10)/\(eD tR x.e).2=true/\(eD tR x.f).2=true
 | 0,_,_,B,_,_,_,_,_,_=>by cases B
 | n+1,t,tR,B,h,u,x,a,b,ht=>by
  obtain⟨h1,h2,_⟩:=Dv h
  unfold sP at B
  split at B
  .exact SR n B bL u x a b ht
  .rename_i hs
   cases B
   have hb:(qp t).2=false:=by simpa using hs
   unfold qp at hb u ht
   cases hq:oR t.cC with
   | none=>rw[hq]at ht;dsimp only at ht;rw[hq]at ht;cases ht
   | some q=>
    obtain⟨y,c,d⟩:=q
    rw[hq]at hb u ht
    dsimp only at hb u ht
    have E:=(h.top hq).1.k
    split at hb
    .rename_i hv
     rw[ee hv]at u ht
     unfold qo at hb u ht
     split at hb
     .cases hb
     rename_i k1
     rw[eb k1]at u ht
     split at hb
     .cases hb
     rename_i k2
     rw[eb k2]at u ht
     split at hb
     .cases hb
     rename_i k3
     rw[eb k3]at u ht
     split at hb
     .cases hb
     rename_i k4
     rw[eb k4]at u ht
     split at hb
     .rename_i k5
      rw[ee k5]at u
      split at hb
      .rename_i k6;rw[ee k6]at u;cases u
      .cases hb
     .rename_i k5
      rw[eb k5]at ht
      rw[hq]at ht;cases ht
      have e:(qp t).1=t:=by unfold qp;rw[hq];dsimp only;rw[ee hv];unfold qo;rw[eb k1,eb k2,eb k3,eb k4,eb k5]
      rw[e]
      exact⟨bL,hv⟩
    .rename_i hv
     rw[eb hv]at u;cases u
section
variable {e:Int}
theorem Zt(h:x.kind=1):qo t x a b e=({oS t x.eB e with cC:=gy t.cC},true):=by unfold qo;grind
theorem Jv(h:x.kind=11):qo t x a b e=({t with cC:=jh (if e=0 then b else a) false (gy t.cC)},true):=by unfold qo;simp[h]
theorem SS(h:x.kind=12):qo t x a b e=({t with cC:=mu x a t.cC},true):=by unfold qo;simp[h]
theorem SU(h:x.kind=13):qo t x a b e=({t with cC:=kc t.cC},true):=by unfold qo;simp[h]
theorem MP(h:x.kind=14)(u:e=0):qo t x a b e=({t with fault:=1},false):=by unfold qo;grind
theorem MQ(h:x.kind=14)(u:¬ e=0):qo t x a b e=({t with cC:=gy t.cC},true):=by unfold qo;grind
theorem SW(h1:¬ x.kind=1)(h2:¬ x.kind=11)(h3:¬ x.kind=12)(h4:¬ x.kind=13)(h5:¬ x.kind=14):qo t x a b e=(t,false):=by grind[qo]
end
theorem Zu(h:oR t.cC=none):qp t=(t,false):=by unfold qp;rw[h]
theorem Zv(h:oR t.cC=some (x,a,b))(h2:(eD t x.e).2=false):qp t=({t with fault:=2},false):=by unfold qp;grind
theorem Zw(h:oR t.cC=some (x,a,b))(h3:(eD t x.f).2=false):qp t=({t with fault:=2},false):=by unfold qp;grind
theorem Zx(h:oR t.cC=some (x,a,b))(h2:(eD t x.e).2=true)(h3:(eD t x.f).2=true):qp t=qo t x a b (eD t x.e).1:=by unfold qp;grind
end
def Qf(B:Option Addr)(G u:Nat)(E:Bool):pr g6 (l0 143 [(0,.slice B G u),(1,.bool E)].toArray)=some (.agg [.slice B G u,.bool E].toArray):=by kernel_rfl
structure xd where
 l:SV
 Jw:Bool
instance:Flat xd where
 agg:=true
 sz:=2
 enc e:=[.slice e.l.a e.l.n e.l.cap,.bool e.Jw]
 val e:=.agg [.slice e.l.a e.l.n e.l.cap,.bool e.Jw].toArray
 pos:=cZ
 len _:=rfl
 one a v h:=by simp at h;rcases h with rfl|rfl<;>rfl
 ng _ _:=rfl
 nh h:=by cases h
variable (w:World) (K:Value->g7)
def S137(I:Value):Prop:=
 aL 193 w λa b=>nC I λc=>fA 138 c 3 λd=>lA 136 d b λe=>lN 136 e λf=>bB .eql 3 f (i 0) λg=>cV g (eM g6 (l0 193 [].toArray) λh=>sA 193 a h b λj=>
 lA 193 a j λr=>K (.tuple #[r,(.slice none 0 0),(.slice none 0 0),ff]) j) (nC I λk=>fA 138 k 3 λl=>lA 136 l (drew b) λn=>nC I λo=>fA 138 o 3 λp=>lA 136 p (drew b) λq=>
 lN 136 q λs=>bB .sub 3 s (i 1) λt=>iA 136 n t λu=>fA 143 u 0 λv=>lA 141 v (drew b) λx=>iA 141 x (i 0) λy=>lA 193 y (drew b) λz=>aL 193 (drew b) λE ab=>
 sA 193 E z ab λB=>fA 193 E 6 λW=>lA 3 W B λO=>bC .add 3 (i 1) O λG=>fA 193 E 7 λU=>lA 3 U B λZ=>bA .add 3 G Z λJ=>lA 193 E (drew B) λY=>
 eM g6 (nn 141 x (some (i 1)) (some G) (some G)) λak=>eM g6 (nn 141 x (some G) (some J) (some J)) λal=>sA 193 a Y (drew B) λM=>
 lA 193 a M λV=>K (.tuple #[V,ak,al,tt]) M)
def axU:dH:=λi=>match i with
 | 3=>.run 0 14
 | 7=>.run 0 14
 | _=>.nil
theorem aek(u:Value)(h:S137 w K u):CR 137 [u] w K:=
 qu 50 axU 60 [.cell 2 193,.tmp 3,.tmp 4,.tmp 5] Tryz.func137 h
def axV:dH:=λi=>match i with
 | 3=>.run 0 14
 | _=>.nil
def S197(B:Value):Prop:=
 jQ (λE O a=>∀_:Env,
 eR (λK2=>eM g6 (Op.unary .not O) λb=>cV b (nC B λc=>fA 138 c 3 λd=>lA 136 d a λe=>lN 136 e λf=>bB .gtr 3 f (i 0) λg=>K2 g a) (K2 ff a))
 (λh j=>∀_:Env,
 cV h (nC B λk=>fA 138 k 3 λl=>lA 136 l j λn=>lN 136 n λo=>bB .sub 3 o (i 1) λp=>nC B λq=>fA 138 q 3 λr=>lA 136 r j λs=>iA 136 s p λt=>fA 143 t 1 λu=>
 lA 4 u j λv=>nC B λx=>fA 138 x 3 λy=>lA 136 y j λz=>eM g6 (nn 136 z none (some p) (some p)) λJ=>nC B λM=>fA 138 M 3 λI=>sA 136 I J j λG=>
 E v G) (K (.tuple #[]) j))) (λE=>E ff w)
theorem ael(u:Value)(h:S197 w K u):CR 197 [u] w K:=
 qu 38 (λ_=>.nil) 0 [] Tryz.func197 h
def S161(u E:Value):Prop:=
 lN 82 E λa=>bB .eql 3 a (i 0) λb=>cV b (K (.tuple #[(i 0),tt]) w) (nC u λc=>fA 138 c 1 λd=>lA 91 d (drew w) λe=>nC u λf=>fA 138 f 2 λg=>lA 41 g (drew w) λh=>
 cF 143 [E,e,h] (drew w) λj k=>xT j 0 λl=>xT j 1 λn=>yn (λB=>bB .neq 31 n (i 0) λo=>cV o (nC u λp=>fA 138 p 4 λq=>sA 3 q (i 2) k λr=>B r) (
 B k)) (λs=>∀_:Env,
 bB .eql 31 n (i 0) λt=>K (.tuple #[l,t]) s))
def axW:dH:=λi=>match i with
 | 3=>.run 0 15
 | _=>.nil
theorem aem(u B:Value)(h:S161 w K u B):CR 161 [u,B] w K:=
 qu 32 axW 48 [.tmp 4,.tmp 5] Tryz.func161 h
def S117(B:Value):Prop:=
 Rl (λE a=>∀_:Env,
 cF 137 [B] a λb c=>xT b 0 λd=>xT b 1 λe=>xT b 2 λf=>xT b 3 λg=>aL 193 c λh j=>sA 193 h d j λk=>eM g6 (Op.unary .not g) λl=>cV l (K (.tuple #[]) k) (
 fA 193 h 3 λn=>lA 82 n k λo=>cF 161 [B,o] k λp q=>xT p 0 λr=>xT p 1 λs=>eM g6 (Op.unary .not s) λt=>cV t (K (.tuple #[]) q) (fA 193 h 4 λu=>lA 82 u q λv=>
 cF 161 [B,v] q λx y=>xT x 0 λ_=>xT x 1 λz=>eM g6 (Op.unary .not z) λaa=>cV aa (K (.tuple #[]) y) (fA 193 h 0 λab=>lA 3 ab y λG=>bB .eql 3 G (i 1) λad=>
 cV ad (nC B λae=>fA 138 ae 2 λO=>lA 41 O (drew y) λM=>nC B λah=>fA 138 ah 1 λZ=>lA 91 Z (drew y) λaj=>fA 193 h 1 λak=>lA 9 ak (drew y) λal=>
 cF 159 [aj,al] (drew y) λam U=>kA 41 O M U (iA 41 M am λao=>sA 3 ao r U λap=>cF 164 [B] ap λ_ aq=>E aq)) (bB .eql 3 G (i 11) λar=>cV ar (cF 164 [B] y λ_ I=>
 eR (λK2=>bB .eql 3 r (i 0) λW=>cV W (K2 f I) (K2 e I)) (λJ av=>∀_:Env,
 cF 116 [B,J,ff] av λ_ aw=>E aw)) (bB .eql 3 G (i 12) λax=>cV ax (lA 193 h y λay=>cF 196 [B,ay,e] y λ_ az=>E az) (bB .eql 3 G (i 13) λa0=>cV a0 (cF 197 [B] y λ_ a1=>
 E a1) (bB .eql 3 G (i 14) λa2=>cV a2 (bB .eql 3 r (i 0) λa3=>cV a3 (nC B λY=>fA 138 Y 4 λa5=>sA 3 a5 (i 1) y λV=>K (.tuple #[]) V) (cF 164 [B] y λ_ a7=>
 E a7)) (K (.tuple #[]) y))))))))) (λE=>E w)
def axX:dH:=λi=>match i with
 | 8=>(.of [(0,[]),(1,[]),(2,[]),(3,[]),(4,[]),(5,[]),(6,[]),(7,[]),(8,[]),(9,[]),(11,[]),(10,[3]),(12,[]),(13,[])])
 | _=>.nil
theorem aen(u:Value)(h:S117 w K u):CR 117 [u] w K:=
 qu 83 axX 0 [] Tryz.func117 h
theorem MR:PL 116:=dG Tryz.func116
theorem Zz:PL 137:=dG Tryz.func137
theorem MS:PL 164:=dG Tryz.func164
theorem are:PL 196:=dG Tryz.func196
theorem arf:PL 197:=dG Tryz.func197
theorem MT:PL 161:=dG Tryz.func161
theorem ahe:PL 117:=dG Tryz.func117
theorem ahf:PL 141:=dG Tryz.func141
end Go.Proofs.YtpdlpabnlkofmaaGreatDoor
namespace Go.Fw
section
variable {P:Program}{w w0:World}{A S:Nat->Prop}{L:List HP}
theorem Fl{n cap l h m:Nat}{lo hi B:Option Value}(M:lo=none/\l=0\/∃i:Int,lo=some (hH i)/\0<=i/\l=i.toNat)(G:∃i:Int,hi=some (hH i)/\0<=i/\h=i.toNat)(I:∃i:Int,B=some (hH i)/\0<=i/\m=i.toNat)
  (h1:l<=h) (h2:h<=m) (h3:m<=cap):pr P (vd true n cap lo hi B)=some (l,h,m):=by
 obtain⟨j,rfl,E,rfl⟩:=G
 obtain⟨k,rfl,u,rfl⟩:=I
 rcases M with⟨rfl,rfl⟩|⟨i,rfl,J,rfl⟩<;>simp only[vd,cT,fO,l2]
 .rw[iZ u bL];simp only[l2];rw[iZ E bL];rfl
 rw[iZ u bL];simp only[l2];rw[iZ E bL];simp only[l2];rw[iZ J bL];rfl
theorem SX{T E sz G:Nat}{z:Option Nat}{a:Option Addr}{n cap l h m:Nat}{lo hi B:Option Value}(ht:eI P T=some (E,sz,G,z))
  (hb:pr P (vd true n cap lo hi B)=some (l,h,m)) :
  pr P (nn T (.slice a n cap) lo hi B)=some (.slice (if m=l then a else a.map (·.add (l*sz))) (h-l) (m-l)):=by
 obtain⟨u,J,M,I,_⟩:=fq ht
 unfold nn
 rw[cT,cS u]
 simp only[l2]
 unfold Instr.slice
 rw[cT,cS u]
 simp only[l2]
 rw[cT,hb]
 simp only[l2]
 rw[cT,mE M,I]
 rfl
variable {α:Type}[Flat α] {xs:List α}
theorem dz.axY{v:Value}{a:Option Addr}{n cap l h:Nat}(I:v=.slice a n cap)(O:dz S w v xs)(h1:l<=h)(h2:h<=xs.length) :
  dz S w (.slice (if h=l then a else a.map (·.add (l*l1 α))) (h-l) (h-l)) ((xs.take h).drop l):=by
 obtain⟨V,Z,M,U,h3⟩:=O
 rw[M]at I
 simp only[ye.injEq]at I
 obtain⟨rfl,W,rfl⟩:=I
 have hlen:((xs.take h).drop l).length=h-l:=by simp;omega
 rcases h3 with⟨G,Y⟩|⟨b,o,rfl,h4,h5⟩
 .subst G
  exact⟨_,h-l,by rw[hlen],ea,.inl ⟨ea,by simp at h2;omega⟩⟩
 refine⟨_,h-l,by rw[hlen],by rw[hlen];exact o5 _,.inr ?_⟩
 have J:(xs.take h).drop l≠[]->xs≠[]:=λE B=>E (by rw[B];simp)
 by_cases E:h=l
 .rw[ee E]
  refine⟨b,o,rfl,λB=>h4 (J B),λj c u=>?_⟩
  have:((xs.take h).drop l)=[]:=by rw[<- qa,hlen];omega
  rw[this]at u;simp[lW]at u
 rw[eb E]
 refine⟨b,o+l*l1 α,by simp[gD],λB=>h4 (J B),λj c u=>?_⟩
 rw[GL,GK,H5,Is]at u
 split at u
 .have:=h5 _ c u
  rwa [show o+(l*l1 α+j)=o+l*l1 α+j from bL]at this
 cases u
theorem MU{T E G:Nat}{z:Option Nat}{v:Value}{i j:Int}{K:Value->Prop}(ht:eI P T=some (E,l1 α,G,z))(I:dz S w v xs)
  (J:0<=i) (h1:i<=j) (h2:j<=xs.length) (k:∀B,(∀w' (ys:List α),dz S w' v ys->dz S w' B ((ys.take j.toNat).drop i.toNat))->K B):eM P (nn T v (some (hH i)) (some (hH j)) (some (hH j))) K:=by
 obtain⟨a,cap,rfl,M,h3⟩:=I
 refine⟨_,SX ht (Fl (.inr ⟨i,rfl,J,rfl⟩) ⟨j,rfl,bL,rfl⟩ ⟨j,rfl,bL,rfl⟩ bL (o5 _) bL),k _ λw' ys u=>u.axY rfl bL ?_⟩
 obtain⟨_,_,h4,_⟩:=u
 grind
theorem Qg{T E G:Nat}{z:Option Nat}{v:Value}{i:Int}{K:Value->Prop}(ht:eI P T=some (E,l1 α,G,z))(I:dz S w v xs)
  (J:0<=i) (h2:i<=xs.length) (k:∀B,(∀w' (ys:List α),dz S w' v ys->dz S w' B (ys.drop i.toNat))->K B):eM P (nn T v (some (hH i)) none none) K:=by
 obtain⟨a,cap,rfl,M,h3⟩:=I
 refine⟨_,vZ ht (nV (.inr ⟨i,rfl,J,rfl⟩) (.inl ⟨rfl,rfl⟩) bL bL),k _ λw' ys u=>?_⟩
 have O:ys.length=xs.length:=by
  obtain⟨_,_,h4,_⟩:=u
  grind
 have:=u.cut rfl (show i.toNat<=ys.length by omega) (o5 _)
 grind
theorem CF{T E U:Nat}{z:Option Nat}{v:Value}{i:Int}{K:Value->Prop}(ht:eI P T=some (E,l1 α,U,z))
  (J:St w0 A (bF v xs::L) w) (O:0<=i) (h1:i<=xs.length) (k:∀M,St w0 A (bF M (xs.take i.toNat)::L) w->K M):eM P (nn T v none (some (hH i)) (some (hH i))) K:=by
 obtain⟨a,cap,u,Z,_⟩:=J.dQ
 refine⟨_,(by rw[u];exact SX ht (Fl (.inl ⟨rfl,rfl⟩) ⟨i,rfl,O,rfl⟩ ⟨i,rfl,O,rfl⟩ (kO _) (o5 _) bL)),k _ ?_⟩
 refine J.qW λF B=>?_
 rcases B with⟨G,V,Y⟩|⟨b,D2,rest,W,hb,hl,B⟩
 .rw[G]at u
  subst V
  simp only[ye.injEq]at u
  obtain⟨rfl,_,rfl⟩:=u
  have hi:i.toNat=0:=by simp at h1;omega
  refine⟨F,.inl ⟨?_,ea,Y⟩,λb hb=>.inl hb,gC.refl _ _⟩
  rw[hi];rfl
 rw[W]at u
 simp only[ye.injEq]at u
 obtain⟨rfl,_,rfl⟩:=u
 have I:(xs.take i.toNat).length=i.toNat:=by rw[lQ];omega
 refine⟨F,.inr ⟨b,i.toNat,flat (xs.drop i.toNat)++rest,?_,?_,⟨bL,?_⟩,B⟩,λb hb=>.inl hb,gC.refl _ _⟩
 .rw[I]
  simp[gD]
 .rw[<- mX,<- ig,List.take_append_drop];exact hb
 rw[kH,dF,I];omega
end
end Go.Fw
namespace Go.Proofs.YtpdlpabnlkofmaaGreatDoor
open Go.Fw
def qQ(K:g7)(u:SV)(rows:List aZ)(l:List bK)(w:World):Prop:=(∀w',K w'->gu rows l w')/\(K w->dz (λ_=>True) w (hM u) rows)
abbrev PE:=List (xd×List aZ)
def Dw(K:g7)(w:World):PE->PD->Prop
 | [],[]=>True
 | e::es,q::p=>(e.1.Jw=q.2/\qQ K e.1.l e.2 q.1.flat w)/\Dw K w es p
 | _,_=>False
def Og(es:PE):List xd:=(es.map Prod.fst).reverse
theorem ZA(e:xd×List aZ)(es:PE):Og (e::es)=Og es++[e.1]:=by simp[Og]
theorem q9(es:PE):(Og es).length=es.length:=by simp[Og]
theorem Dw.len{K:g7}{w:World}:∀{es:PE}{p:PD},Dw K w es p->es.length=p.length
 | [],[],_=>rfl
 | e::es,q::p,h=>by have:=Dw.len h.2;simp[this]
 | [],_::_,h=>h.elim
 | _::_,[],h=>h.elim
def eK(K Φ:g7)(p:Nat)(room:Int)(t:jJ):HP:=pZ λu:Nat=>pZ λB:SV=>pZ λrg=>pZ λpl=>pZ λes:PE=>fact (∀w,K w->dz (λ_=>True) w (hM B) t.names)
 (sep (bZ p [.pointer (some ⟨u,0,none⟩),hM B,rg,pl,hH t.fault]) (sep (iX u room t.buf) (sep (bF rg t.dN) (sep (bF pl (Og es)) (eH λw=>Dw K w es t.cC/\Φ w)))))
abbrev re(K:g7)(p:Nat)(room:Int)(t:jJ):HP:=eK K (λ_=>True) p room t
section
variable {w w0:World}{A:Nat->Prop}{R:List HP}{p:Nat}{K Φ Ψ:g7}{room:Int}{t:jJ}
theorem su{H1 H2 E B u:HP}(G:St w0 A (sep H1 (sep H2 (sep E (sep B u)))::R) w):St w0 A (H1::H2::E::B::u::R) w:=by
 have h1:=G.split
 have h2:=h1.p1.split
 have h3:=h2.p1.split
 have h4:=h3.p1.split
 exact h4.p2.p3.p4
theorem sw{H1 H2 E B u:HP}(G:St w0 A (H1::H2::E::B::u::R) w):St w0 A (sep H1 (sep H2 (sep E (sep B u)))::R) w:=by
 have h4:=St.join G.p4.p4
 have h3:=St.join h4.p3
 have h2:=St.join h3.p2
 exact St.join h2.p1
abbrev AY(u:Nat)(B:SV)(rg pl:Value)(f:Int):List Value:=[.pointer (some ⟨u,0,none⟩),hM B,rg,pl,.int .i64 f]
theorem eK.open(u:St w0 A (eK K Φ p room t::R) w):∃B E rg pl es,(∀w,K w->dz (λ_=>True) w (hM E) t.names)/\
  St w0 A (bZ p (AY B E rg pl t.fault)::iX B room t.buf::bF rg t.dN::bF pl (Og es)::eH (λw=>Dw K w es t.cC/\Φ w)::R) w:=by
 obtain⟨B,u⟩:=u.ep;obtain⟨E,u⟩:=u.ep;obtain⟨rg,u⟩:=u.ep;obtain⟨pl,u⟩:=u.ep;obtain⟨es,u⟩:=u.ep;obtain⟨G,u⟩:=u.l6
 exact⟨B,E,rg,pl,es,G,su u⟩
theorem eK.shut{u:Nat}{B:SV}{rg pl:Value}{es:PE}(E:∀w,K w->dz (λ_=>True) w (hM B) t.names)
  (G:St w0 A (bZ p (AY u B rg pl t.fault)::iX u room t.buf::bF rg t.dN::bF pl (Og es)::eH (λw=>Dw K w es t.cC/\Φ w)::R) w):St w0 A (eK K Φ p room t::R) w:=
 St.er u (St.er B (St.er rg (St.er pl (St.er es (St.nZ E (sw G))))))
theorem eK.mono(u:St w0 A (eK K Φ p room t::R) w)(h:∀w,Φ w->Ψ w):St w0 A (eK K Ψ p room t::R) w:=by
 obtain⟨G,I,rg,pl,es,E,u⟩:=eK.open u
 have h1:=u.p4.dD (Ψ:=λw=>Dw K w es t.cC/\Ψ w) λw B=>⟨B.1,h w B.2⟩
 exact eK.shut E h1.p4.p4.p4.p4
theorem eK.now(u:St w0 A (eK K Φ p room t::R) w):Φ w:=by
 obtain⟨E,G,rg,pl,es,B,u⟩:=eK.open u
 exact u.p4.eH.2
theorem eK.rd(h:Has (eK K Φ p room t) w):∃B E rg pl es,(∀w,K w->dz (λ_=>True) w (hM E) t.names)/\qx w p (AY B E rg pl t.fault)/\tO w B room t.buf/\dz (λ_=>True) w rg t.dN/\dz (λ_=>True) w pl (Og es)/\Dw K w es t.cC/\Φ w:=by
 obtain⟨F,u⟩:=h.st
 obtain⟨B,E,rg,pl,es,G,u⟩:=eK.open u
 exact⟨B,E,rg,pl,es,G,u.hb,Ds u.p1,u.p2.dQ,u.p3.dQ,u.p4.eH.1,u.p4.eH.2⟩
theorem iU{E:aZ}{x:bK}(h:mL w E x):∃B u:SV,E=⟨x.kind,x.eB,x.name,B,u,x.n,x.body,x.eo,x.at_⟩/\dz (λ_=>True) w (hM B) x.e/\dz (λ_=>True) w (hM u) x.f:=by
 obtain⟨B,u,h1,h2,h3⟩:=h
 exact⟨B,u,h1,DL.flat h2,DL.flat h3⟩
theorem gu.cut{rows:List aZ}{l:List bK}{i j:Nat}(h:gu rows l w):gu ((rows.take j).drop i) ((l.take j).drop i) w:=(h.take j).drop i
theorem ap9{x:bK}{a b r:Bk}(h:(Bk.cons x a b r).str){j:Int}(u:j=1+x.body):(((Bk.cons x a b r).flat.take j.toNat).drop (1:Int).toNat)=a.flat:=by
 obtain⟨E,_⟩:=h
 have B:=a.cY
 rw[u7 _ (a:=1) (c:=(1:Int).toNat) (n:=a.flat.length) bL rfl]
 show(a.flat++(b.flat++r.flat)).take _=_
 grind
theorem aqa{x:bK}{a b r:Bk}(h:(Bk.cons x a b r).str){i j:Int}(hi:i=1+x.body)(B:j=1+x.body+x.eo):(((Bk.cons x a b r).flat.take j.toNat).drop i.toNat)=b.flat:=by
 obtain⟨E,u,_⟩:=h
 have G:=a.cY
 have lb:=b.cY
 rw[u7 _ (a:=1+a.flat.length) (n:=b.flat.length) bL bL,<- List.drop_drop]
 show((a.flat++(b.flat++r.flat)).drop _).take _=_
 grind
theorem qQ.cut{E u:SV}{rows:List aZ}{l:List bK}{i j:Nat}(h:qQ K E rows l w)(hc:∀w' (ys:List aZ),dz (λ_=>True) w' (hM E) ys->dz (λ_=>True) w' (hM u) ((ys.take j).drop i)):qQ K u ((rows.take j).drop i) ((l.take j).drop i) w:=
 ⟨λw' B=>gu.cut (h.1 w' B),λB=>hc _ _ (h.2 B)⟩
theorem qQ.W9{E u:SV}{rows:List aZ}{l:List bK}{i:Nat}(h:qQ K E rows l w)(hc:∀w' (ys:List aZ),dz (λ_=>True) w' (hM E) ys->dz (λ_=>True) w' (hM u) (ys.drop i)):qQ K u (rows.drop i) (l.drop i) w:=
 ⟨λw' B=>(h.1 w' B).drop i,λB=>hc _ _ (h.2 B)⟩
theorem Dw.top{es:PE}{q:Bk×Bool}{p:PD}(h:Dw K w es (q::p)):∃u rows B,es=(⟨u,q.2⟩,rows)::B/\qQ K u rows q.1.flat w/\Dw K w B p:=by
 match es,h with
 | [],h=>exact h.elim
 | e::es,h=>
  obtain⟨⟨u,E⟩,rows⟩:=e
  obtain⟨⟨h1,h2⟩,h3⟩:=h
  grind
theorem Dw.cons{u:SV}{e:Bool}{rows:List aZ}{es:PE}{q:Bk×Bool}{p:PD}(h:Dw K w ((⟨u,e⟩,rows)::es) (q::p)):qQ K u rows q.1.flat w/\Dw K w es p:=⟨h.1.2,h.2⟩
theorem Fm{e:xd×List aZ}{es:PE}:(Og (e::es))[es.length]?=some e.1:=by grind[Og]
theorem SY{e:xd×List aZ}{es:PE}:(Og (e::es)).take es.length=Og es:=by grind[Og]
end
theorem C116(K Φ:g7)(p:Nat)(room:Int)(t:jJ)(F:Nat->Prop)(lv:SV)(rows:List aZ)(b:Bk)(e:Bool)(w:World)(U:(eK K Φ p room t).p w F)(G:∀w',gC F w w'->K w')(E:∀w,Φ w->qQ K lv rows b.flat w)(Z:t.cC.length<=100000) :
    CR 116 [.pointer (some ⟨p,0,none⟩),hM lv,.bool e] w (λv w'=>v=.tuple #[]/\mH F (eK K Φ p room {t with cC:=jh b e t.cC}) w w'):=by
 have u:=St.begin U;refine eU Tryz.func116 ?_;obtain⟨M,I⟩:=E _ (eK.now u);have hlen:=(M _ (G _ u.aF)).1;refine aH fj (I (G _ u.aF)) (cP (aC (λc=>?_) λc=>?_));rotate_left
 .have hb:b=.nil:=by
   cases b with
   | nil=>rfl
   | cons y a B r=>simp[Bk.flat]at hlen;omega
  subst hb;exact⟨rfl,u.mut⟩
 obtain⟨y,a,B,r,rfl⟩:=Bk.Dl (t:=b) bL;obtain⟨bp,nv,rg,pl,es,O,u⟩:=eK.open u;have Y:=u.p4.eH.1.len;refine aD (aA jz (aB rG u.hb rfl (pop (Qf lv.a lv.n lv.cap e) (aW ([(⟨lv,e⟩:xd)]) u uh rfl rfl (dM rfl) λV _ u=>?_))));have W:=u.dQ;refine bJ u.p4 uh W (by rw[q9];simp;omega) cZ (λJ _ u=>have u:=u.p1.drop;aD (aA jz (aV u.p1 rG (dM rfl) u.dQ.one λ_ u=>?_)));have u:=u.p4.dD (Ψ:=λw=>Dw K w ((⟨lv,e⟩,rows)::es) ((.cons y a B r,e)::t.cC)/\Φ w) (λw h=>⟨⟨⟨rfl,E w h.2⟩,h.1⟩,h.2⟩)
 have u:=u.p2;rw[<- ZA (⟨lv,e⟩,rows) es]at u;have u:=eK.shut (Φ:=Φ) (t:={t with cC:=(.cons y a B r,e)::t.cC}) O u.p1.p1.p4.p4.p4;exact⟨rfl,u.mut⟩
def C164(K Φ:g7)(p:Nat)(room:Int)(t:jJ)(F:Nat->Prop)(y:bK)(a b r:Bk)(e:Bool)(E:PD)(w:World)(hF:(eK K Φ p room t).p w F)(V:∀w',gC F w w'->K w')(Bj:t.cC=(.cons y a b r,e)::E)(iS:(Bk.cons y a b r).str)(oy:t.cC.length<=100000) :
   CR 164 [.pointer (some ⟨p,0,none⟩)] w (λv w'=>v=.tuple #[]/\mH F (eK K Φ p room {t with cC:=gy t.cC}) w w'):=by
 have hpp:gy t.cC=jh r false E:=by rw[Bj];rfl
 have Z:E.length<=100000:=cH
 have u:=St.begin hF;refine pJ Tryz.func164 (pl:=axV) ?_;obtain⟨bp,nv,rg,pl,es,hk,u⟩:=eK.open u;have B:=u.p4.eH.1;rw[Bj]at B;obtain⟨J,rows,UK,rfl,⟨AU,FZ⟩,_⟩:=B.top;have Lg:=B.len;rw[n5,n5]at Lg;have PK:=AU _ (V _ u.aF);have Gm:=PK.1;have tG:=(Bk.cons y a b r).cY
 change rows.length=(Bk.cons y a b r).flat.length at Gm
 obtain⟨J5,hb2,hb3,hb4,_⟩:=id iS;simp only[Bk.len]at tG;obtain⟨t0,U⟩:∃t0,rows[(0:Int).toNat]?=some t0:=⟨_,kE (by simp;omega)⟩;obtain⟨ge,gf,rfl,_,_⟩:=iU (PK.2 0 _ y U rfl);refine aD (aA jz (aB rG u.hb rfl (aH uh u.p3.dQ ?_)));rw[q9,n5];refine fk bL ?_;rw[show((UK.length+1:Nat):Int)-1=(UK.length:Int)from bL];refine aD (aA jz (aB rG u.hb rfl (aM uh u.p3.dQ bL (by rw[o6];exact Fm) λq hq=>bW J KX hq rfl rfl λq2 PU=>aE jA PU (aD (aA jz (aB rG u.hb rfl (have u:=u.p3;CF uh u bL (by rw[q9,n5];omega) λs25 u=>?_)))))))
 rw[o6,SY]at u;refine aD (aA jz (aV u.p1 rG (dM rfl) u.dQ.one λ_ u=>?_));have u:=u.drew.p4;rw[Bj]at u;have u:=u.dD (Ψ:=λw=>Dw K w UK E/\(Φ w/\qQ K J rows (Bk.cons y a b r).flat w)) (λ_ h=>⟨h.1.2,h.2,h.1.1.2⟩);have I:=u.eH.2.2.2 (V _ u.aF);have u:=eK.shut (Φ:=λw=>Φ w/\qQ K J rows (Bk.cons y a b r).flat w) (t:={t with cC:=E}) hk u.p2.p4.p4.p4;refine aM fj I bL U (λq3 O=>bW y.body iO O rfl rfl λq4 Y=>aE bO Y (aJ bL (aM fj I bL U λq5 hq5=>bW y.eo iz hq5 rfl rfl λq6 M=>aE bO M (aJ bL (Qg fj I bL bL λs40 G=>?_)))))
 obtain⟨W,rfl⟩:=(G _ _ I).fQ;refine bD MR u (H':=λ_=>eK K (λw=>Φ w/\qQ K J rows (Bk.cons y a b r).flat w) p room {t with cC:=jh r false E}) (Φ:=λ_ _=>True) (λF2 dZ dV=>?_) ?_
 .refine(C116 K _ p room {t with cC:=E} F2 W (rows.drop (1+y.body+y.eo).toNat) r false _ dZ (λw' hc=>V w' (dV w' hc).aF) (λw h=>?_) Z).mono λ_ _ r=>r.mono λ_ _ h=>⟨trivial,h.2⟩;have:=h.2.W9 G;rw[Bk.aiN iS rfl]at this;exact this
 rintro _ _ _ u;rw[<- hpp]at u;exact⟨rfl,(eK.mono u λ_ h=>h.1).mut⟩
theorem C137(K:g7)(p:Nat)(t:jJ)(bp:Nat)(nv:SV)(rg pl:Value)(es:PE)(φ:bK->Prop)(w:World)(uG:qx w p (AY bp nv rg pl t.fault))(UM:dz (λ_=>True) w pl (Og es))(W:Dw K w es t.cC)
   (hw:∀w',Ext w w'->K w') (B:F4 φ t.cC) (hl:t.cC.length<=100000):CR 137 [.pointer (some ⟨p,0,none⟩)] w (λv w'=>Ext w w'/\((oR t.cC=none/\v=.tuple #[hM (⟨0,⟨#[]⟩,⟨#[]⟩,cI,cI,0,0,0,0⟩:aZ),.slice none 0 0,.slice none 0 0,.bool false])\/
    ∃x a b xv av bv ra rb,oR t.cC=some (x,a,b)/\v=.tuple #[hM (xv:aZ),hM (av:SV),hM (bv:SV),.bool true]/\(∀w',K w'->mL w' xv x)/\∀M,Dw K M es t.cC->qQ K av ra a.flat M/\qQ K bv rb b.flat M)):=by
 have V:=uG.cell (o:=3) rfl;have J:=W.len;have u:=St.start w;refine aek _ _ _ ?_;unfold S137;refine aQ u jk (λb2 _ u=>have u:=u.enc (cs':=ia (⟨0,⟨#[]⟩,⟨#[]⟩,cI,cI,0,0,0,0⟩:aZ)) rfl;aD (aA jz (bU rG (V.ext u.aF) (aH uh (UM.ext u.aF) ?_))));rw[q9];refine aG (aC (λc=>?_) λc=>?_)
 .have Oe:t.cC=[]:=qa.1 bL;exact pop (v:=hM (⟨0,⟨#[]⟩,⟨#[]⟩,cI,cI,0,0,0,0⟩:aZ)) (by kernel_rfl) (aK (x:=(⟨0,⟨#[]⟩,⟨#[]⟩,cI,cI,0,0,0,0⟩:aZ)) u eG rfl rfl λ_ u=>aE eG u.At ⟨u.drop.aF,.inl ⟨by rw[Oe];rfl,rfl⟩⟩)
 obtain⟨cC,ark⟩:∃q,q=t.cC:=⟨_,rfl⟩;rw[<- ark]at W B J hl |-;cases cC with
 | nil=>exact absurd (show((es.length:Nat):Int)=0 by have h0:es.length=0:=J;omega) c
 | cons q p'=>
 obtain⟨q1,e⟩:=q;cases q1 with
 | nil=>exact absurd rfl (B.ne _ (ob ..))
 | cons y a b r=>
 have Z:=B.st _ (ob ..);obtain⟨sv,rows,UK,rfl,⟨AU,FZ⟩,_⟩:=W.top;have PK:=AU _ (hw _ (Ext.refl _));have Gm:=PK.1;have tG:=(Bk.cons y a b r).cY
 change rows.length=(Bk.cons y a b r).flat.length at Gm
 obtain⟨J5,hb2,hb3,hb4,_⟩:=id Z;simp only[Bk.len]at tG;rw[n5]at J c;rw[n5]at J hl;obtain⟨t0,U⟩:∃t0,rows[(0:Int).toNat]?=some t0:=⟨_,kE (by simp;omega)⟩;obtain⟨ge,gf,rfl,_,_⟩:=iU (PK.2 0 _ y U rfl);have E:=FZ (hw _ (Ext.refl _));have u:=u.drew;refine aD (aA jz (bU rG (V.ext u.aF) (aD (aA jz (bU rG (V.ext u.aF) (aH uh (UM.ext u.aF) ?_))))));rw[q9,n5];refine fk bL ?_;rw[show((UK.length+1:Nat):Int)-1=(UK.length:Int)from bL];refine aM uh (UM.ext u.aF) bL (by rw[o6];exact Fm) (λq hq=>bW sv KX hq rfl rfl λq2 PU=>aE jA PU (aM fj (E.ext u.aF) bL U λq3 O=>aE eG O (aQ u jk λb7 _ u=>aK (x:=(⟨y.kind,y.eB,y.name,ge,gf,y.n,y.body,y.eo,y.at_⟩:aZ)) u eG rfl rfl λ_ u=>aA iO (aB (v:=hH y.body) bO u.hb rfl (aJ bL (aA iz (aB (v:=hH y.eo) bO u.hb rfl (aJ bL ?_))))))))
 have u:=u.drew;refine aE eG u.At (MU fj (E.ext u.aF) bL bL bL λs44 I=>?_);obtain⟨ax3,rfl⟩:=(I _ _ E).fQ;refine MU fj (E.ext u.aF) bL bL bL (λs49 G=>?_);obtain⟨Y,rfl⟩:=(G _ _ E).fQ;refine aK (x:=(⟨y.kind,y.eB,y.name,ge,gf,y.n,y.body,y.eo,y.at_⟩:aZ)) u.p1 eG rfl rfl (λ_ u=>aE eG u.At ?_);refine⟨u.drop.drop.aF,.inr ⟨y,a,b,_,ax3,Y,(rows.take (1+y.body).toNat).drop (1:Int).toNat,(rows.take (1+y.body+y.eo).toNat).drop (1+y.body).toNat,rfl,rfl,λw' hk=>(AU w' hk).2 0 _ y U rfl,λM h2=>?_⟩⟩;have h3:=h2.cons.1
 refine⟨?_,?_⟩
 .have:=h3.cut I;rw[ap9 Z rfl]at this;exact this
 have:=h3.cut G;rw[aqa Z rfl rfl]at this;exact this
theorem C197(K Φ:g7)(p:Nat)(room:Int)(t:jJ)(F:Nat->Prop)(w:World)(Y:(eK K Φ p room t).p w F)(hK:∀w',gC F w w'->K w')(Z:t.cC.length<=100000) :
   CR 197 [.pointer (some ⟨p,0,none⟩)] w (λv w'=>v=.tuple #[]/\mH F (eK K Φ p room {t with cC:=kc t.cC}) w w'):=by
 have u:=St.begin Y;refine ael _ _ _ ?_;unfold S197;refine⟨λm ev M=>∃(E:Bool) (B:PD),ev=.bool E/\m=B.length+(if E then 0 else 1)/\B.length<=100000/\kc t.cC=(if E=true then B else kc B)/\St w F [eK K Φ p room {t with cC:=B}] M,⟨_,false,t.cC,rfl,rfl,Z,rfl,u⟩,?_⟩;rintro m _ M ⟨E,B,rfl,rfl,VQ,G,u⟩ _;obtain⟨bp,nv,rg,pl,es,U,u⟩:=eK.open u;have I:=u.p4.eH.1;have V:=I.len
 change es.length=B.length at V
 refine⟨λW w'=>W=.bool (!E&&decide (0<B.length))/\w'=M,?_,?_⟩
 .refine bP ?_;cases E with
  | true=>exact fa ⟨rfl,rfl⟩
  | false=>
   refine gN (aD (aA jz (aB rG u.hb rfl (aH uh u.p3.dQ ?_))));rw[q9];refine cP ?_;exact⟨vb (by rw[N9,Av];exact ew.2 bL),rfl⟩
 rintro _ _ ⟨rfl,rfl⟩ _;refine aX (λc=>?_) (λc=>?_);rotate_left
 .have hd:kc t.cC=B:=by
   rw[G];cases E with
   | true=>rfl
   | false=>
    have:B=[]:=qa.1 (by have:=gL (by simpa only[N9,Av]using c);omega);rw[this];rfl
  rw[hd];exact⟨rfl,(eK.shut (t:={t with cC:=B}) U u).mut⟩
 rw[Bool.and_eq_true,Bool.not_eq_true',decide_eq_true_eq]at c;obtain⟨rfl,CS⟩:=c;cases B with
 | nil=>simp at CS
 | cons q J=>
 obtain⟨q1,e⟩:=q;obtain⟨sv,rows,O,rfl,_,_⟩:=I.top;rw[n5,n5]at V;rw[n5]at VQ;refine aD (aA jz (aB rG u.hb rfl (aH uh u.p3.dQ ?_)));rw[q9,n5];refine fk bL ?_;rw[show((O.length+1:Nat):Int)-1=(O.length:Int)from bL];refine aD (aA jz (aB rG u.hb rfl (aM uh u.p3.dQ bL (by rw[o6];exact Fm) λq hq=>bW e WD hq rfl rfl λq2 PU=>aE Gf PU (aD (aA jz (aB rG u.hb rfl (have u:=u.p3;CF uh u bL (by rw[q9,n5];omega) λs25 u=>?_)))))))
 rw[o6,SY]at u;refine aD (aA jz (aV u.p1 rG (dM rfl) u.dQ.one λ_ u=>have u:=u.p4.dD (Ψ:=λw=>Dw K w O J/\Φ w) (λ_ h=>⟨h.1.2,h.2⟩);have u:=eK.shut (Φ:=Φ) (t:={t with cC:=J}) U u.p2.p4.p4.p4;⟨_,?_,e,J,rfl,rfl,bL,?_,u⟩))
 .show J.length+(if e=true then 0 else 1)<J.length+1+1
  split<;>omega
 rw[G];rfl
def C161(K Φ:g7)(p:Nat)(room:Int)(t:jJ)(F:Nat->Prop)(lv:Value)(xs:List bY)(w:World)(M:(eK K Φ p room t).p w F)(J:∀w',gC F w w'->K w')(G:dz (λ_=>True) w lv xs)(O:xs.length<=1048576)(U:t.names.length<=1048576) :
   CR 161 [.pointer (some ⟨p,0,none⟩),lv] w (λv w'=>v=.tuple #[hH (eD t xs).1,.bool (eD t xs).2]/\mH F (eK K Φ p room {t with fault:=if (eD t xs).2=true then t.fault else 2}) w w'):=by
 have u:=St.begin M;refine aem _ _ _ _ ?_;unfold S161;refine aH gV G (aG (aC (λc=>?_) λc=>?_))
 .have B:eD t xs=(0,true):=by unfold eD;rw[ee bL]
  rw[B];exact⟨rfl,u.mut⟩
 have B:eD t xs=((qA t.names t.dN xs).1,decide ((qA t.names t.dN xs).2=0)):=by unfold eD;rw[eb bL]
 obtain⟨V,W,rg,pl,es,E,u⟩:=eK.open u;have u:=u.drew;refine aD (aA Ad (aB iW u.hb rfl (aD (aA Ae (aB eP u.hb rfl (aS agD u (C143 _ _ _ xs t.names t.dN _ (G.ext (Ext.drew w)) (E _ (J _ u.aF)) u.p2.dQ O U) λ_ Y u=>aN rfl (aN rfl ⟨λw'=>St w F [eK K Φ p room {t with fault:=if (eD t xs).2=true then t.fault else 2}] w',bT (aC (λI=>?_) λI=>?_),?_⟩)))))))
 .refine aD (aA wk (aV u bO (dM rfl) rfl λ_ u=>?_));have ht:{t with fault:=2}={t with fault:=if (eD t xs).2=true then t.fault else 2}:=by rw[B];dsimp only;rw[ej I];rfl
  rw[<- ht];exact eK.shut (t:={t with fault:=2}) E u
 .have ht:t={t with fault:=if (eD t xs).2=true then t.fault else 2}:=by rw[B];dsimp only;rw[ei bL];rfl
  rw[<- ht];exact eK.shut E u
 intro _ u _;exact aG ⟨by rw[B],u.mut⟩
def eK.ajQ{w w0:World}{A:Nat->Prop}{R:List HP}{p:Nat}{K Φ Ψ:g7}{room:Int}{t:jJ}(u:St w0 A (eH Ψ::eK K Φ p room t::R) w):St w0 A (eK K (λw=>Φ w/\Ψ w) p room t::R) w:=by
 obtain⟨E,G,rg,pl,es,B,u⟩:=eK.open u.p1
 have h1:=u.p5.p5.fZ.dD (Ψ:=λw=>Dw K w es t.cC/\Φ w/\Ψ w) λw h=>⟨h.1.1,h.1.2,h.2⟩
 exact eK.shut B h1.p4.p4.p4.p4
theorem gu.cons{w:World}{t:aZ}{x:bK}{ts:List aZ}{xs:List bK}(h:mL w t x)(u:gu ts xs w):gu (t::ts) (x::xs) w:=by
 refine⟨by simp[u.1],λi t' B h1 h2=>?_⟩
 cases i with
 | zero=>simp at h1 h2;subst h1 h2;exact h
 | succ i=>exact u.2 i t' B (by simpa using h1) (by simpa using h2)
theorem Qh(x:bK)(a:Bk):(Bk.cons x a .nil .nil).flat=x::a.flat:=by simp[Bk.flat]
theorem C196(K Φ:g7)(p:Nat)(room:Int)(t:jJ)(F:Nat->Prop)(x:bK)(xv:aZ)(av:SV)(V:List aZ)(a b r:Bk)(e:Bool)(W:PD)(w:World)(hF:(eK K Φ p room t).p w F)(J:∀w',gC F w w'->K w')(Z:t.cC=(.cons x a b r,e)::W)(iS:(Bk.cons x a b r).str)(oy:t.cC.length<=90000)
   (zO:∀w,K w->mL w xv x) (hΦ:∀w,Φ w->qQ K av V a.flat w) (hn:0<=x.n/\x.n<=1000) :
   CR 196 [.pointer (some ⟨p,0,none⟩),hM xv,hM av] w (λv w'=>v=.tuple #[]/\mH F (eK K Φ p room {t with cC:=mu x a t.cC}) w w'):=by
 have u:=St.begin hF;obtain⟨B,E,rfl,_,_⟩:=iU (zO _ (J _ u.aF));have Xw:a.flat.length<=40:=by rw[Bk.cY];exact iS.2.2.1
 have hppl:(gy t.cC).length<=90001:=by
  rw[Z];show(jh r false W).length<=_;rw[Z,n5]at oy;cases r with
  | nil=>show W.length<=_;omega
  | cons _ _ _ _=>show W.length+1<=_;omega
 refine eU Tryz.func196 ?_;refine cJ (x:=(⟨x.kind,x.eB,x.name,B,E,x.n,x.body,x.eo,x.at_⟩:aZ)) u (λb4 _ u=>bD MS u.p1 (H':=λ_=>eK K (Φ) p room {t with cC:=gy t.cC}) (Φ:=λ_ _=>True) (λM U O=>?_) ?_)
 .exact(C164 K _ p room t M x a b r e W _ U (λw' hc=>J w' (O w' hc).aF) Z iS bL).mono λ_ _ r=>r.mono λ_ _ h=>⟨trivial,h.2⟩
 rintro _ _ _ u;refine aA jB (aB (v:=hH x.n) bO u.p1.hb rfl (aG (aC (λc=>?_) λc=>?_)))
 .rw[show mu x a t.cC=gy t.cC from by unfold mu;rw[ee c]];exact⟨rfl,u.p1.drop.mut⟩
 rw[show mu x a t.cC=jh a false ((.cons {x with n:=x.n-1} a .nil .nil,true)::gy t.cC)from by unfold mu;rw[eb c]];refine aE eG u.p1.At (aW ([⟨x.kind,x.eB,x.name,B,E,x.n,x.body,x.eo,x.at_⟩]:List aZ) u fj rfl rfl (dM rfl) λs13 _ u=>?_);have G:=hΦ _ (eK.now u.p1);have hral:=(G.1 _ (J _ u.aF)).1;refine bJ u fj (G.2 (J _ u.aF)) (by simp;omega) cZ (λs15 _ u=>dJ u fj bL ea λq17 h17=>l8 jB h17 λq18 h18=>nt (x.n:Int) u bO h18 (x:=(⟨x.kind,x.eB,x.name,B,E,x.n,x.body,x.eo,x.at_⟩:aZ)) rfl rfl (fk bL (dJ u fj bL ea λq21 h21=>l8 jB h21 λq22 h22=>W5 (x:=(⟨x.kind,x.eB,x.name,B,E,x.n,x.body,x.eo,x.at_⟩:aZ)) (⟨x.kind,x.eB,x.name,B,E,x.n-1,x.body,x.eo,x.at_⟩:aZ) (x.n-1:Int) u bO h22 rfl cZ rfl λ_ u=>?_)))
 obtain⟨I,rfl⟩:=u.dQ.fQ;have u:=eK.ajQ u.freeze
 have Y:∀w',K w'->gu (((⟨x.kind,x.eB,x.name,B,E,x.n,x.body,x.eo,x.at_⟩:aZ)::V).set (0:Int).toNat (⟨x.kind,x.eB,x.name,B,E,x.n-1,x.body,x.eo,x.at_⟩:aZ)) (Bk.cons {x with n:=x.n-1} a .nil .nil).flat w':=λw' hw=>by
  rw[Qh];obtain⟨_,_,h4,h5,h6⟩:=zO w' hw;cases h4
  exact gu.cons ⟨B,E,rfl,h5,h6⟩ (G.1 w' hw)
 refine bD MR u (H':=λ_=>eK K (λw=>Φ w/\dz (λ_=>True) w (hM I) (([(⟨x.kind,x.eB,x.name,B,E,x.n,x.body,x.eo,x.at_⟩:aZ)]++V).set (0:Int).toNat (⟨x.kind,x.eB,x.name,B,E,x.n-1,x.body,x.eo,x.at_⟩:aZ))) p room { {t with cC:=gy t.cC}with cC:=jh (Bk.cons {x with n:=x.n-1} a .nil .nil) true ({t with cC:=gy t.cC}).cC}) (Φ:=λ_ _=>True) (λM U O=>?_) ?_
 .exact(C116 K _ p room ({t with cC:=gy t.cC}) M I _ (Bk.cons {x with n:=x.n-1} a .nil .nil) true _ U (λw' hc=>J w' (O w' hc).aF) (λ_ h=>⟨Y,λ_=>h.2⟩) (by show(gy t.cC).length<=_;omega)).mono λ_ _ r=>r.mono λ_ _ h=>⟨trivial,h.2⟩
 rintro _ _ _ u;refine bD MR u (H':=λ_=>eK K (λw=>Φ w/\dz (λ_=>True) w (hM I) (([(⟨x.kind,x.eB,x.name,B,E,x.n,x.body,x.eo,x.at_⟩:aZ)]++V).set (0:Int).toNat (⟨x.kind,x.eB,x.name,B,E,x.n-1,x.body,x.eo,x.at_⟩:aZ))) p room { {t with cC:=(.cons {x with n:=x.n-1} a .nil .nil,true)::gy t.cC}with cC:=jh a false ({t with cC:=(.cons {x with n:=x.n-1} a .nil .nil,true)::gy t.cC}).cC}) (Φ:=λ_ _=>True) (λM U O=>?_) ?_
 .exact(C116 K _ p room ({t with cC:=(.cons {x with n:=x.n-1} a .nil .nil,true)::gy t.cC}) M av V a false _ U (λw' hc=>J w' (O w' hc).aF) (λw h=>hΦ w h.1) (by show(gy t.cC).length+1<=_;omega)).mono λ_ _ r=>r.mono λ_ _ h=>⟨trivial,h.2⟩
 rintro _ _ _ u;exact⟨rfl,(eK.mono u.p1.drop λ_ h=>h.1).mut⟩
def C117(K:g7)(p:Nat)(room:Int)(t tR:jJ)(n:Nat)(cs ls:List ByteArray)(F:Nat->Prop)(w:World)(hF:(re K p room t).p w F)(V:∀w',gC F w w'->K w')(jK:xV cs ls t)(hg:sP n t=some tR) :
   CR 117 [.pointer (some ⟨p,0,none⟩)] w (λv w'=>v=.tuple #[]/\mH F (re K p room tR) w w'):=by
 have u:=St.begin hF;refine aen _ _ _ ?_;unfold S117;refine⟨λmm w'=>∃B:jJ,sP mm B=some tR/\xV cs ls B/\St w F [re K p room B] w',⟨n,t,hg,jK,u⟩,?_⟩;rintro mm _ ⟨B,Y,W,u⟩ _;obtain⟨k,rfl⟩:=Hu Y;have oy:=Du W.p;have EO:=W.cl;have ZB:=W.nb;have Gm:=W.rl;obtain⟨bp,nv,rg,pl,es,Z,u⟩:=eK.open u;refine dO Zz (C137 K p B bp nv rg pl es _ _ u.hb u.p3.dQ u.p4.eH.1 (λ_ e=>V _ (u.aF.then e)) W.p bL) ?_;rintro v _ ⟨he,hv⟩;have u:=u.ext he
 rcases hv with⟨ey,rfl⟩|⟨x,a,b,xv,E,G,I,J,vE,rfl,zO,hab⟩
 .refine aN rfl (aN rfl (aN rfl (aN rfl (aQ u jk λb2 w3 u=>aK (x:=(⟨0,⟨#[]⟩,⟨#[]⟩,cI,cI,0,0,0,0⟩:aZ)) u eG rfl rfl λw4 u=>bP (gN ?_)))));rw[oT Y (Zu ey)];exact⟨rfl,(eK.shut Z u.drop).mut⟩
 obtain⟨ge,gf,rfl,_,_⟩:=iU (zO _ (V _ u.aF))
 have Qi:∀w,K w->dz (λ_=>True) w (hM ge) x.e/\dz (λ_=>True) w (hM gf) x.f:=λw hw=>by
  obtain⟨_,_,h4,h5,h6⟩:=iU (zO w hw);cases h4
  exact⟨h5,h6⟩
 obtain⟨hx,sa,sb,aa,ab,J5,hb2,Xw,r,e,p',Bj,sr,ar⟩:=W.top vE;have iS:(Bk.cons x a b r).str:=W.p.st _ (by rw[Bj];exact ob ..);have hxe:=hx.e;have u:=u.p4.dD (Ψ:=λw=>Dw K w es B.cC/\(qQ K E I a.flat w/\qQ K G J b.flat w)) (λw h=>⟨h.1,hab w h.1⟩);have u:=eK.shut (Φ:=λw=>qQ K E I a.flat w/\qQ K G J b.flat w) (t:=B) Z u.p4.p4.p4.p4;refine aN rfl (aN rfl (aN rfl (aN rfl (aQ u jk λb2 w3 u=>aK (x:=(⟨x.kind,x.eB,x.name,ge,gf,x.n,x.body,x.eo,x.at_⟩:aZ)) u eG rfl rfl λw4 u=>bP (fa (aA iN (aB (v:=hM ge) jy u.hb rfl (bD MT u.p1 (H':=λ_=>eK K (λw=>qQ K E I a.flat w/\qQ K G J b.flat w) p room {B with fault:=if (eD B x.e).2=true then B.fault else 2}) (Φ:=λv _=>v=.tuple #[hH (eD B x.e).1,.bool (eD B x.e).2]) (λM U O=>?_) ?_))))))))
 .exact C161 K _ p room B M _ x.e _ U (λw' hc=>V w' (O w' hc).aF) (Qi _ (V _ u.aF)).1 bL bL
 rintro _ w5 rfl u;refine aN rfl (aN rfl (bP (aX (λc1=>?_) λc1=>?_)))
 .have h1:(eD B x.e).2=false:=by simpa using c1
  rw[h1]at u;rw[oT Y (Zv vE h1)];exact⟨rfl,(eK.mono u.p1.drop λ_ _=>trivial).mut⟩
 have h1:(eD B x.e).2=true:=by simpa using c1
 replace u:St w F [eK K (λw=>qQ K E I a.flat w/\qQ K G J b.flat w) p room B,bZ b2 (ia (⟨x.kind,x.eB,x.name,ge,gf,x.n,x.body,x.eo,x.at_⟩:aZ))] w5:=by rw[h1]at u;exact u
 refine aA jS (aB (v:=hM gf) jy u.p1.hb rfl (bD MT u (H':=λ_=>eK K (λw=>qQ K E I a.flat w/\qQ K G J b.flat w) p room {B with fault:=if (eD B x.f).2=true then B.fault else 2}) (Φ:=λv _=>v=.tuple #[hH (eD B x.f).1,.bool (eD B x.f).2]) (λM U O=>?_) ?_))
 .exact C161 K _ p room B M _ x.f _ U (λw' hc=>V w' (O w' hc).aF) (Qi _ (V _ u.aF)).2 bL bL
 rintro _ w6 rfl u;refine aN rfl (aN rfl (bP (aX (λc2=>?_) λc2=>?_)))
 .have h2:(eD B x.f).2=false:=by simpa using c2
  rw[h2]at u;rw[oT Y (Zw vE h2)];exact⟨rfl,(eK.mono u.p1.drop λ_ _=>trivial).mut⟩
 have h2:(eD B x.f).2=true:=by simpa using c2
 replace u:St w F [eK K (λw=>qQ K E I a.flat w/\qQ K G J b.flat w) p room B,bZ b2 (ia (⟨x.kind,x.eB,x.name,ge,gf,x.n,x.body,x.eo,x.at_⟩:aZ))] w6:=by rw[h2]at u;exact u
 have hgk:=Zx vE h1 h2
 have vF:∀(t2:jJ) (w':World),qo B x a b (eD B x.e).1=(t2,true)->St w F [eK K (λw=>qQ K E I a.flat w/\qQ K G J b.flat w) p room t2,bZ b2 (ia (⟨x.kind,x.eB,x.name,ge,gf,x.n,x.body,x.eo,x.at_⟩:aZ))] w'->∃m',m'<k+1/\∃B:jJ,sP m' B=some tR/\xV cs ls B/\St w F [re K p room B] w':=λt2 w' h3 h4=>by
  have h5:=hgk.trans h3;obtain⟨h6,h7,_⟩:=Dv W;rw[h5]at h6 h7;exact⟨k,Px k,t2,SQ Y h5,h6,eK.mono h4.p1.drop λ_ _=>trivial⟩
 refine aA dK (aB (v:=hH x.kind) bO u.p1.hb rfl (aG (aC (λk1=>?_) λk1=>?_)))
 .have ZC:=dI.1 (hx.rg (.inl k1));obtain⟨j,hj,BR,_⟩:=lE ZC;have Co:=(ir.1 BR).1;obtain⟨bp,nv,rg,pl,es,Z,u⟩:=eK.open u;have u:=u.drew;refine aD (aA Ae (aB eP u.hb rfl (aD (aA Ad (aB iW u.hb rfl (aA iy (aB (v:=.string x.eB) gn u.p5.hb rfl (aS Ha u (C159 _ B.names x.eB _ (Z _ (V _ u.aF)) bL) λ_ he u=>?_))))))));refine⟨aI eP (u.hb.cell rfl),?_⟩;refine dJ u.p2 cQ bL bL (λq51 h51=>jj (eD B x.e).1 u.p2 bO h51 bL λ_ u=>have u:=eK.shut (Φ:=λw=>qQ K E I a.flat w/\qQ K G J b.flat w) (t:=oS B x.eB (eD B x.e).1) Z u.p2.p2;bD MS u (H':=λ_=>eK K (λw=>qQ K E I a.flat w/\qQ K G J b.flat w) p room {oS B x.eB (eD B x.e).1 with cC:=gy (oS B x.eB (eD B x.e).1).cC}) (Φ:=λ_ _=>True) (λM U O=>?_) ?_)
  .exact(C164 K _ p room (oS B x.eB (eD B x.e).1) M x a b r e p' _ U (λw' hc=>V w' (O w' hc).aF) Bj iS (by show B.cC.length<=_;omega)).mono λ_ _ r=>r.mono λ_ _ h=>⟨trivial,h.2⟩
  rintro _ _ _ u;exact vF _ _ (Zt k1) u
 refine aG (aC (λk2=>?_) λk2=>?_)
 .refine bD MS u (H':=λ_=>eK K (λw=>qQ K E I a.flat w/\qQ K G J b.flat w) p room {B with cC:=gy B.cC}) (Φ:=λ_ _=>True) (λM U O=>?_) ?_
  .exact(C164 K _ p room B M x a b r e p' _ U (λw' hc=>V w' (O w' hc).aF) Bj iS bL).mono λ_ _ r=>r.mono λ_ _ h=>⟨trivial,h.2⟩
  rintro _ w10 _ u;refine⟨λjv w'=>jv=(if (eD B x.e).1=0 then hM G else hM E)/\w'=w10,?_,?_⟩
  .refine aG ?_;refine aC (λc=>⟨(ee c).symm,rfl⟩) (λc=>⟨(eb c).symm,rfl⟩)
  rintro _ _ ⟨rfl,rfl⟩ _
  have hpq:(gy B.cC).length<=100000:=by
   have:=Du W.p.pop;have:=Qe Bj;omega
  have e1:(if (eD B x.e).1=0 then hM G else hM E)=hM (if (eD B x.e).1=0 then G else E):=by split<;>rfl
  rw[e1];refine bD MR u (H':=λ_=>eK K (λw=>qQ K E I a.flat w/\qQ K G J b.flat w) p room { {B with cC:=gy B.cC}with cC:=jh (if (eD B x.e).1=0 then b else a) false ({B with cC:=gy B.cC}).cC}) (Φ:=λ_ _=>True) (λM U O=>?_) ?_
  .exact(C116 K _ p room ({B with cC:=gy B.cC}) M (if (eD B x.e).1=0 then G else E) (if (eD B x.e).1=0 then J else I) (if (eD B x.e).1=0 then b else a) false _ U (λw' hc=>V w' (O w' hc).aF) (λ_ h=>by split;exact h.2;exact h.1) hpq).mono λ_ _ r=>r.mono λ_ _ h=>⟨trivial,h.2⟩
  rintro _ _ _ u;exact vF _ _ (Jv k2) u
 refine aG (aC (λk3=>?_) λk3=>?_)
 .refine aE eG u.p1.At (bD are u (H':=λ_=>eK K (λw=>qQ K E I a.flat w/\qQ K G J b.flat w) p room {B with cC:=mu x a B.cC}) (Φ:=λ_ _=>True) (λM U O=>?_) ?_)
  .exact(C196 K _ p room B M x ⟨x.kind,x.eB,x.name,ge,gf,x.n,x.body,x.eo,x.at_⟩ E I a b r e p' _ U (λw' hc=>V w' (O w' hc).aF) Bj iS bL zO (λ_ h=>h.1) (hx.n k3)).mono λ_ _ r=>r.mono λ_ _ h=>⟨trivial,h.2⟩
  rintro _ _ _ u;exact vF _ _ (SS k3) u
 refine aG (aC (λk4=>?_) λk4=>?_)
 .refine bD arf u (H':=λ_=>eK K (λw=>qQ K E I a.flat w/\qQ K G J b.flat w) p room {B with cC:=kc B.cC}) (Φ:=λ_ _=>True) (λM U O=>?_) ?_
  .exact(C197 K _ p room B M _ U (λw' hc=>V w' (O w' hc).aF) bL).mono λ_ _ r=>r.mono λ_ _ h=>⟨trivial,h.2⟩
  rintro _ _ _ u;exact vF _ _ (SU k4) u
 refine aG (aC (λk5=>?_) λk5=>?_)
 .refine aG (aC (λc=>?_) λc=>?_)
  .obtain⟨bp,nv,rg,pl,es,Z,u⟩:=eK.open u;refine aD (aA wk (aV u bO (dM rfl) rfl λ_ u=>?_));have u:=eK.shut (Φ:=λw=>qQ K E I a.flat w/\qQ K G J b.flat w) (t:={B with fault:=1}) Z u;rw[oT Y (hgk.trans (MP k5 c))];exact⟨rfl,(eK.mono u.p1.drop λ_ _=>trivial).mut⟩
  refine bD MS u (H':=λ_=>eK K (λw=>qQ K E I a.flat w/\qQ K G J b.flat w) p room {B with cC:=gy B.cC}) (Φ:=λ_ _=>True) (λM U O=>?_) ?_
  .exact(C164 K _ p room B M x a b r e p' _ U (λw' hc=>V w' (O w' hc).aF) Bj iS bL).mono λ_ _ r=>r.mono λ_ _ h=>⟨trivial,h.2⟩
  rintro _ _ _ u;exact vF _ _ (MQ k5 c) u
 rw[oT Y (hgk.trans (SW k1 k2 k3 k4 k5))];exact⟨rfl,(eK.mono u.p1.drop λ_ _=>trivial).mut⟩
variable (w:World) (K:Value->g7)
def ax6:dH:=λi=>match i with
 | 8=>(.of [(0,[]),(1,[]),(2,[]),(3,[]),(4,[]),(5,[]),(6,[]),(7,[]),(8,[]),(9,[]),(10,[]),(11,[]),(12,[]),(13,[]),(14,[7]),(15,[]),(16,[]),(17,[]),(18,[]),(19,[])])
 | _=>.nil
def S160(Y E a G:Value):Prop:=
 rA g6 (yg 193 a) w λb c=>aL 56 c λd e=>nC E λf=>fA 138 f 0 λg=>lA 88 g e λh=>cF 226 [h,G] e λj k=>xT j 0 λl=>xT j 1 λn=>Cp (λO=>
 eM g6 (Op.unary .not n) λo=>cV o (nC Y λp=>fA 96 p 4 λq=>lA 93 q k λs=>cF 227 [s,G] k λt u=>xT t 0 λv=>xT t 1 λ_=>O v (i 1) u) (O l (i 2) k))
 (λI B x=>∀_:Env,
 nC E λy=>fA 138 y 2 λz=>lA 41 z (drew x) λM=>nC E λab=>fA 138 ab 1 λac=>lA 91 ac (drew x) λZ=>fA 193 b 1 λV=>lA 9 V (drew x) λaf=>cF 159 [Z,af] (drew x) λW J=>
 kA 41 z M J (iA 41 M W λU=>sA 3 U I J λaj=>eM g6 (l0 56 [(0,B),(2,G),(3,I)].toArray) λak=>sA 56 d ak aj λal=>lA 56 d al λr=>
 K r al))
def ax7:dH:=λi=>match i with
 | 6=>(.of [(0,[]),(1,[]),(2,[]),(3,[]),(4,[]),(5,[]),(6,[]),(7,[]),(8,[]),(9,[]),(11,[]),(10,[3]),(12,[]),(13,[])])
 | _=>.nil
theorem aeo(G E u B:Value)(h:S160 w K G E u B):CR 160 [G,E,u,B] w K:=
 qu 49 ax7 256 [.cell 8 56] Tryz.func160 h
def S163(U B a E:Value):Prop:=
 rA g6 (yg 193 a) w λb c=>aL 56 c λd e=>nC U λf=>fA 96 f 4 λg=>lA 93 g e λh=>cF 227 [h,E] e λj k=>xT j 0 λl=>xT j 1 λ_=>fA 193 b 3 λn=>
 lA 82 n k λo=>cF 161 [B,o] k λp q=>xT p 0 λs=>xT p 1 λ_=>fA 193 b 4 λt=>lA 82 t q λu=>cF 161 [B,u] q λv x=>xT v 0 λy=>xT v 1 λ_=>nC B λz=>
 fA 138 z 2 λV=>lA 41 V (drew x) λW=>nC B λac=>fA 138 ac 1 λad=>lA 91 ad (drew x) λZ=>fA 193 b 1 λaf=>lA 9 af (drew x) λag=>cF 159 [Z,ag] (drew x) λah M=>
 kA 41 V W M (iA 41 W ah λaj=>sA 3 aj l M λG=>bA .neq 3 l s λal=>cV al (eM g6 (l0 56 [(0,(i 9)),(2,E),(3,l)].toArray) λam=>sA 56 d am G λO=>
 lA 56 d O λr=>K r O) (nC U λao=>fA 96 ao 4 λap=>lA 93 ap G λY=>cF 156 [Y,E,y] G λ_ ar=>eM g6 (l0 56 [(0,(i 8)),(2,E),(3,l),(4,y)].toArray) λI=>
 sA 56 d I ar λJ=>lA 56 d J λKs=>K Ks J))
def ax8:dH:=λi=>match i with
 | 4=>(.of [(0,[]),(1,[]),(2,[]),(3,[]),(4,[]),(5,[]),(6,[]),(7,[]),(8,[]),(9,[]),(11,[]),(10,[3]),(12,[]),(13,[])])
 | _=>.nil
theorem aep(G E u B:Value)(h:S163 w K G E u B):CR 163 [G,E,u,B] w K:=
 qu 68 ax8 256 [.cell 8 56] Tryz.func163 h
def S91(E O:Value):Prop:=
 aL 56 w λa b=>nC E λc=>fA 96 c 6 λd=>lA 94 d b λe=>iA 94 e O λf=>lA 135 f b λg=>nC g λh=>fA 138 h 4 λj=>lA 3 j b λk=>bB .neq 3 k (i 0) λl=>
 cV l (nC g λn=>fA 138 n 4 λo=>lA 3 o b λp=>cF 158 [E,O,p] b λq s=>sA 56 a q s λt=>lA 56 a t λr=>K r t) (cF 137 [g] b λu v=>xT u 0 λx=>xT u 1 λ_=>
 xT u 2 λ_=>xT u 3 λ_=>aL 193 v λy z=>sA 193 y x z λU=>nC E λab=>fA 96 ab 1 λac=>lA 91 ac (drew U) λad=>fA 193 y 2 λae=>lA 9 ae (drew U) λaf=>
 nC E λag=>fA 96 ag 2 λah=>lA 91 ah (drew U) λZ=>fA 193 y 2 λaj=>lA 9 aj (drew U) λak=>cF 159 [ad,af] (drew U) λal W=>kA 91 ah Z W (kA 9 aj ak W (
 cF 159 [Z,ak] W λV Y=>nC E λap=>fA 96 ap 0 λaq=>lA 27 aq Y λar=>cF 52 [ar,al] Y λI au=>aL 56 au λG B=>yn (λJ=>fA 193 y 0 λaw=>lA 3 aw B λM=>
 bB .eql 3 M (i 2) λay=>cV ay (lA 193 y B λaz=>cF 160 [E,g,az,al] B λa0 a1=>sA 56 G a0 a1 λa2=>J a2) (bB .eql 3 M (i 3) λa3=>cV a3 (fA 193 y 3 λa4=>
 lA 82 a4 B λa5=>cF 161 [g,a5] B λa6 a7=>xT a6 0 λa8=>xT a6 1 λ_=>nC g λa9=>fA 138 a9 0 λba=>lA 88 ba a7 λbb=>eM g6 (l0 231 [(0,(i 3)),(1,I),(2,al),(3,a8)].toArray) λbc=>
 cF 162 [bb,bc] a7 λ_ bd=>eM g6 (l0 56 [(0,(i 3)),(2,al),(3,a8)].toArray) λbe=>sA 56 G be bd λbf=>J bf) (bB .eql 3 M (i 5) λbg=>cV bg (nC g λbh=>
 fA 138 bh 0 λbi=>lA 88 bi B λbj=>eM g6 (l0 231 [(0,(i 5)),(1,I)].toArray) λbk=>cF 162 [bj,bk] B λ_ bl=>eM g6 (l0 56 [(0,(i 4)),(2,I)].toArray) λbm=>
 sA 56 G bm bl λbn=>J bn) (bB .eql 3 M (i 6) λbo=>cV bo (nC g λbp=>fA 138 bp 0 λbq=>lA 88 bq B λbr=>eM g6 (l0 231 [(0,(i 6)),(1,I)].toArray) λbs=>
 cF 162 [br,bs] B λ_ bt=>eM g6 (l0 56 [(0,(i 5)),(2,I)].toArray) λbu=>sA 56 G bu bt λbv=>J bv) (bB .eql 3 M (i 7) λbw=>cV bw (nC g λbx=>
 fA 138 bx 0 λbz=>lA 88 bz B λb0=>eM g6 (l0 231 [(0,(i 7))].toArray) λb1=>cF 162 [b0,b1] B λ_ b2=>eM g6 (l0 56 [(0,(i 6))].toArray) λb3=>
 sA 56 G b3 b2 λb4=>J b4) (bB .eql 3 M (i 8) λb5=>cV b5 (eM g6 (l0 56 [(0,(i 7))].toArray) λb6=>sA 56 G b6 B λb7=>J b7) (bB .eql 3 M (i 4) λb8=>
 cV b8 (lA 193 y B λb9=>cF 163 [E,g,b9,al] B λca cb=>sA 56 G ca cb λcc=>J cc) (bB .eql 3 M (i 9) λcd=>cV cd (nC E λce=>fA 96 ce 5 λcf=>lA 41 cf B λcg=>
 iA 41 cg V λch=>sA 3 ch O B λci=>eM g6 (l0 56 [(0,(i 10)),(2,V)].toArray) λcj=>sA 56 G cj ci λck=>J ck) (nC E λcl=>fA 96 cl 5 λcm=>
 lA 41 cm B λcn=>iA 41 cn V λco=>lA 3 co B λcp=>bA .neq 3 cp O λcq=>cV cq (cF 158 [E,O,(i 3)] B λcr cs=>sA 56 a cr cs λct=>lA 56 a ct λKs=>K Ks ct) (
 nC E λcu=>fA 96 cu 5 λcv=>lA 41 cv B λcw=>iA 41 cw V λcx=>sA 3 cx (i (-1)) B λcy=>eM g6 (l0 56 [(0,(i 11)),(2,V)].toArray) λcz=>sA 56 G cz cy λc0=>
 J c0)))))))))) (λc1=>∀_:Env,
 fA 56 G 1 λc2=>sA 3 c2 O c1 λc3=>cF 164 [g] c3 λ_ c4=>cF 117 [g] c4 λ_ c5=>lA 56 G c5 λc6=>sA 56 a c6 c5 λc7=>lA 56 a c7 λTU=>K TU c7))))
def P91:dH:=λi=>match i with
 | 5=>(.of [(0,[]),(1,[]),(2,[]),(3,[]),(4,[]),(5,[]),(7,[]),(8,[]),(9,[]),(10,[]),(11,[]),(12,[]),(6,[10,12]),(13,[]),(14,[]),(15,[])])
 | _=>.nil
theorem ajV(B u:Value)(h:S91 w K B u):CR 91 [B,u] w K:=
 qu 171 P91 16 [.cell 4 56] Tryz.func91 h
def P90:dH:=λi=>match i with
 | 1=>(.op 0 [] (.op 1 [] (.op 2 [] (.op 3 [] (.op 4 [] (.op 5 [] (.op 6 [] (.op 7 [] (.op 8 [] (.op 9 [] (.op 10 [] (.op 11 [] (.op 12 [] (.alt 13 [] (.of [(14,[]),(15,[]),(16,[]),(17,[3,5,7,10,12]),(18,[]),(19,[])]) (.alt 17 [3,5,7,10,12] (.of [(13,[]),(14,[]),(15,[]),(16,[]),(18,[]),(19,[])]) .stop)))))))))))))))
 | 4=>.run 0 9
 | 8=>.run 0 7
 | _=>.nil
def P56:dH:=λi=>match i with
 | 9=>(.of [(0,[]),(1,[]),(2,[]),(3,[]),(4,[]),(5,[]),(6,[2]),(7,[]),(8,[]),(9,[])])
 | _=>.nil
def P24:dH:=λi=>match i with
 | 1=>.run 0 30
 | _=>.nil
def P68:dH:=λi=>match i with
 | 2=>(.of [(0,[]),(1,[]),(2,[]),(3,[]),(4,[]),(5,[]),(6,[]),(7,[]),(8,[]),(9,[]),(10,[]),(11,[]),(12,[]),(13,[3,7,11]),(14,[])])
 | _=>.nil
def S70(B:Value):Prop:=
 nC B λa=>fA 96 a 0 λb=>lA 27 b w λc=>cF 54 [c] w λd e=>nC B λf=>fA 96 f 0 λg=>fA 27 g 5 λh=>lA 25 h e λj=>lN 25 j λk=>o0 (λJ E l n=>∀_:Env,
 bA .lss 3 l k λo=>cV o (eR (λK2=>iA 25 j l λp=>lA 85 p n λq=>aL 85 n λU r=>sA 85 U q r λs=>fA 85 U 0 λt=>lA 82 t (drew s) λu=>nC B λv=>fA 96 v 1 λx=>
 lA 91 x (drew s) λy=>eM g6 (nn 91 y none (some d) none) λz=>cF 72 [B] (drew s) λaa G=>kA 82 t u G (kA 91 x y G (eM g6 (nn 41 aa none (some d) none) λac=>
 cF 143 [u,z,ac] G λO M=>xT O 0 λaf=>xT O 1 λag=>bB .eql 31 ag (i 0) λah=>cV ah (bB .neq 3 af (i 0) λW=>bS 117 1 [(0,W)] M λaj ak=>aP 117 E aj ak λal am=>
 K2 al am) (bS 117 1 [(0,ff)] M λan Z=>aP 117 E an Z λap Y=>K2 ap Y)))) (λV ar=>∀_:Env,
 bB .add 3 l (i 1) λI=>J V I ar)) (K E n)) (λJ=>J (.slice none 0 0) (i 0) e)
def P70:dH:=λi=>match i with
 | 6=>(.of [(0,[]),(1,[]),(2,[]),(3,[]),(4,[]),(5,[]),(6,[]),(7,[]),(8,[]),(10,[]),(9,[1,5]),(11,[]),(12,[]),(13,[]),(14,[]),(15,[]),(16,[]),(17,[])])
 | _=>.nil
theorem ajW(u:Value)(h:S70 w K u):CR 70 [u] w K:=
 qu 51 P70 4 [.tmp 2] Tryz.func70 h
def S12(p0 M:Value):Prop:=
 rA g6 (yg 27 p0) w λp2 a=>lA 27 p2 a λb=>cF 48 [b] a λc d=>xT c 0 λe=>xT c 1 λ_=>bB .neq 31 e (i 0) λf=>cV f (K (.tuple #[(.pointer none),e]) d) (
 cF 49 [M] d λg h=>xT g 0 λ_=>xT g 1 λj=>bB .neq 31 j (i 0) λk=>cV k (K (.tuple #[(.pointer none),j]) h) (lA 27 p2 (drew h) λl=>lA 27 p2 (drew h) λn=>lA 27 p2 (drew h) λo=>
 cF 50 [n] (drew h) λp q=>kA 27 p2 l q (kA 27 p2 o q (cF 51 [o] q λr s=>kA 27 p2 l s (eM g6 (l0 96 [(0,l),(1,p),(2,r),(3,M)].toArray) λt=>rA g6 (yg 96 t) s λu v=>
 nC u λx=>fA 96 x 1 λy=>lA 91 y v λz=>lN 91 z λaa=>o0 (λJ B I E=>∀_:Env,
 bA .lss 3 I aa λad=>cV ad (lA 27 p2 E λae=>cF 52 [ae,I] E λaf ag=>bS 41 1 [(0,af)] ag λah Y=>aP 41 B ah Y λaj ak=>bB .add 3 I (i 1) λal=>J aj al ak) (
 lA 27 p2 (drew E) λam=>lA 27 p2 (drew E) λV=>cF 54 [am] (drew E) λao U=>kA 27 p2 V U (cF 55 [V] U λZ ar=>cF 53 [B,ao,Z] ar λG W=>xT G 0 λav=>
 xT G 1 λ_=>nC u λaw=>fA 96 aw 4 λax=>sA 93 ax av W λO=>fA 27 p2 3 λaz=>lA 24 az O λa0=>cF 56 [u,a0] O λ_ a1=>K (.tuple #[u,(i 0)]) a1))) λJ=>J (.slice none 0 0) (i 0) v)))))
def P12:dH:=λi=>match i with
 | 7=>(.of [(0,[]),(1,[]),(3,[]),(5,[]),(2,[0,3]),(4,[0]),(6,[]),(7,[]),(8,[])])
 | 14=>(.of [(0,[]),(1,[]),(2,[]),(4,[]),(3,[4]),(5,[]),(6,[]),(7,[]),(8,[]),(9,[]),(10,[]),(11,[]),(12,[])])
 | _=>.nil
theorem ajX(p0 u:Value)(h:S12 w K p0 u):CR 12 [p0,u] w K:=
 qu 69 P12 48 [.tmp 4,.tmp 5] Tryz.func12 h
def S87(E:Value):Prop:=
 lN 41 E λa=>o0 (λu B b c=>∀_:Env,
 bA .lss 3 b a λd=>cV d (iA 41 E b λe=>lA 3 e c λf=>bB .mul 3 B (i 10000) λg=>bA .add 3 g f λh=>bB .add 3 b (i 1) λj=>u h j c) (K B c)) (λu=>u (i 0) (i 0) w)
theorem ajY(u:Value)(h:S87 w K u):CR 87 [u] w K:=
 qu 18 (λ_=>.nil) 4 [.tmp 2] Tryz.func87 h
theorem aro:PL 138:=dG Tryz.func138
theorem arp:PL 67:=dG Tryz.func67
theorem ahi:PL 158:=dG Tryz.func158
theorem arq:PL 160:=dG Tryz.func160
theorem ars:PL 163:=dG Tryz.func163
theorem ax9:PL 91:=dG Tryz.func91
theorem aya:PL 90:=dG Tryz.func90
theorem art:PL 56:=dG Tryz.func56
theorem ayb:PL 24:=dG Tryz.func24
theorem ayc:PL 88:=dG Tryz.func88
theorem aru:PL 68:=dG Tryz.func68
theorem arv:PL 140:=dG Tryz.func140
theorem ajZ:PL 72:=dG Tryz.func72
theorem ayd:PL 70:=dG Tryz.func70
theorem aye:PL 12:=dG Tryz.func12
theorem ayf:PL 87:=dG Tryz.func87
theorem arw:PL 142:=dG Tryz.func142
theorem arx:PL 217:=dG Tryz.func217
end Go.Proofs.YtpdlpabnlkofmaaGreatDoor
namespace Go.Proofs.YtpdlpabnlkofmaaGreatDoor
open Go.Fw
def B5(u:Int)(B:Int):pr g6 (l0 50 [(0,hH u),(1,hH B)].toArray)=some (.agg [hH u,hH B,hH 0,.slice none 0 0].toArray):=by kernel_rfl
def CG(u:Int)(B:Int)(E:Int):pr g6 (l0 50 [(0,hH u),(1,hH B),(2,hH E)].toArray)=some (.agg [hH u,hH B,hH E,.slice none 0 0].toArray):=by kernel_rfl
def Hv(B:Int)(G:Option Addr)(u E:Nat):pr g6 (l0 50 [(0,hH B),(3,.slice G u E)].toArray)=some (.agg [hH B,hH 0,hH 0,.slice G u E].toArray):=by kernel_rfl
def Jz:pr g6 (l0 56 [].toArray)=some (.agg [hH 0,hH 0,hH 0,hH 0,hH 0].toArray):=by kernel_rfl
def JA(u:Int):pr g6 (l0 56 [(0,hH u)].toArray)=some (.agg [hH u,hH 0,hH 0,hH 0,hH 0].toArray):=by kernel_rfl
def Hw(u:Int)(B:Int):pr g6 (l0 56 [(0,hH u),(1,hH B)].toArray)=some (.agg [hH u,hH B,hH 0,hH 0,hH 0].toArray):=by kernel_rfl
def tn(u:Int)(B:Int)(E:Int):pr g6 (l0 56 [(0,hH u),(1,hH B),(2,hH E)].toArray)=some (.agg [hH u,hH B,hH E,hH 0,hH 0].toArray):=by kernel_rfl
def yG(u:Int)(E:Int)(G:Int)(B:Int):pr g6 (l0 56 [(0,hH u),(1,hH E),(2,hH G),(3,hH B)].toArray)=some (.agg [hH u,hH E,hH G,hH B,hH 0].toArray):=by kernel_rfl
def oc(u:Int)(B:Int):pr g6 (l0 56 [(0,hH u),(2,hH B)].toArray)=some (.agg [hH u,hH 0,hH B,hH 0,hH 0].toArray):=by kernel_rfl
def mw(u:Int)(E:Int)(B:Int):pr g6 (l0 56 [(0,hH u),(2,hH E),(3,hH B)].toArray)=some (.agg [hH u,hH 0,hH E,hH B,hH 0].toArray):=by kernel_rfl
def yH(B:Int)(G:Int)(u:Int)(E:Int):pr g6 (l0 56 [(0,hH B),(2,hH G),(3,hH u),(4,hH E)].toArray)=some (.agg [hH B,hH 0,hH G,hH u,hH E].toArray):=by kernel_rfl
def Hx(u:Int)(B:Int):pr g6 (l0 56 [(0,hH u),(3,hH B)].toArray)=some (.agg [hH u,hH 0,hH 0,hH B,hH 0].toArray):=by kernel_rfl
def Gn(Y:Option Addr)(ZE ZF:Nat)(MW:Option Addr)(ZG ZH:Nat)(u:Option Addr)(ZI V:Nat)(MY:Option Addr)(B M4:Nat)(M5:Option Addr)(M6 U:Nat)(J:Option Addr)(O E:Nat)(Z:Option Addr)(M I:Nat)(G:Option Addr)(n2 c2:Nat)(W:Int):pr g6 (l0 96 [(0,.agg [.slice Y ZE ZF,.slice MW ZG ZH,.slice u ZI V,.slice MY B M4,.slice M5 M6 U,.slice J O E].toArray),(1,.slice Z M I),(2,.slice G n2 c2),(3,hH W)].toArray)=some (.agg [.slice Y ZE ZF,.slice MW ZG ZH,.slice u ZI V,.slice MY B M4,.slice M5 M6 U,.slice J O E,.slice Z M I,.slice G n2 c2,hH W,.pointer none,.slice none 0 0,.slice none 0 0,hH 0,hH 0,hH 0].toArray):=by kernel_rfl
def JB(u:Int)(B:Int)(E:Int):pr g6 (l0 114 [(0,hH u),(1,hH B),(2,hH E)].toArray)=some (.agg [hH u,hH B,hH E,.bool false,.bool false].toArray):=by kernel_rfl
def JC(I:Option Addr)(J:Option Addr)(E B:Nat)(u:Option Addr)(G M:Nat):pr g6 (l0 138 [(0,.pointer I),(1,.slice J E B),(2,.slice u G M)].toArray)=some (.agg [.pointer I,.slice J E B,.slice u G M,.slice none 0 0,hH 0].toArray):=by kernel_rfl
def vi(u:Int)(B:Int):pr g6 (l0 231 [(0,hH u),(1,hH B)].toArray)=some (.agg [hH u,hH B,hH 0,hH 0].toArray):=by kernel_rfl
def xf(u:Int)(E:Int)(G:Int)(B:Int):pr g6 (l0 231 [(0,hH u),(1,hH E),(2,hH G),(3,hH B)].toArray)=some (.agg [hH u,hH E,hH G,hH B].toArray):=by kernel_rfl
structure fY where
 p:cE
 room:Int
 mem:Mem
 eQ:List Int
 l:List jJ
 dC:Int
 fault:Int
 ke:Int
structure DA where
 pv:bM
 cv:SV
 kv:SV
 q:Nat
 ov:Value
 fv:Value
 ow:Value
 ll:Value
 ps:List Ptr
@[reducible] def qC(a:DA)(s:fY):List Value:=[hM a.pv.lines,hM a.pv.iJ,hM a.pv.eE,hM a.pv.threads,hM a.pv.recover,hM a.pv.dX,hM a.cv,hM a.kv,.int .i64 s.room,.pointer (some ⟨a.q,0,none⟩),a.ow,a.ll,.int .i64 s.dC,.int .i64 s.fault,.int .i64 s.ke]
def ThK(K:g7)(E:cD)(t:cL):Prop:=∃(B u:SV) (rows:List aZ),E=⟨t.name,B,u,t.at_⟩/\(∀w,K w->dz (λ_=>True) w (hM B) t.dN)/\∀w,qQ K u rows t.body w
def C0(K:g7)(B:List cD)(qB:List cL):Prop:=B.length=qB.length/\∀(j:Nat) (u:cD) (t:cL),B[j]?=some u->qB[j]?=some t->ThK K u t
structure DUK(K:g7)(a:DA)(s:fY):Prop where
 pr:∀w,K w->mL w a.pv s.p
 cs:∀w,K w->dz (λ_=>True) w (hM a.cv) (cX s.p)
 ks:∀w,K w->dz (λ_=>True) w (hM a.kv) (cK s.p)
 mem:∀w,K w->AW a.ov a.fv s.mem w
 rc:∃vj,(∀w,K w->dz (λ_=>True) w (hM a.pv.recover) vj)/\C0 K vj s.p.recover
abbrev yl(K:g7)(room:Int)(s:Ptr)(t:jJ):HP:=re K s.b room t
def gR(K:g7)(p:Nat)(m:fY):HP:=pZ λa:DA=>fact (DUK K a m) (sep (bZ p (qC a m)) (sep (iE a.q a.ov a.fv m.mem) (sep (bF a.ow m.eQ) (sep (bF a.ll a.ps) (gY (yl K m.room) a.ps m.l)))))
def mN(K:g7)(p:Nat)(m:fY)(i:Nat)(tp:Ptr):HP:=pZ λa:DA=>fact (DUK K a m/\a.ps[i]?=some tp/\a.ps.length=m.l.length/\i<m.l.length) (sep (bZ p (qC a m)) (sep (iE a.q a.ov a.fv m.mem) (sep (bF a.ow m.eQ) (sep (bF a.ll a.ps) (nw (yl K m.room) a.ps m.l i)))))
section
variable {w w' w0:World}{A:Nat->Prop}{R:List HP}{p:Nat}{K:g7}{m:fY}{a:DA}{i:Nat}{tp:Ptr}{t:jJ}
theorem gR.open(u:St w0 A (gR K p m::R) w):∃a,DUK K a m/\St w0 A (bZ p (qC a m)::iE a.q a.ov a.fv m.mem::bF a.ow m.eQ::bF a.ll a.ps::gY (yl K m.room) a.ps m.l::R) w:=by
 obtain⟨a,u⟩:=u.ep;obtain⟨B,u⟩:=u.l6;exact⟨a,B,su u⟩
theorem gR.shut(u:DUK K a m)(B:St w0 A (bZ p (qC a m)::iE a.q a.ov a.fv m.mem::bF a.ow m.eQ::bF a.ll a.ps::gY (yl K m.room) a.ps m.l::R) w):St w0 A (gR K p m::R) w:=
 St.er a (St.nZ u (sw B))
theorem mN.open(u:St w0 A (mN K p m i tp::R) w):∃a,(DUK K a m/\a.ps[i]?=some tp/\a.ps.length=m.l.length/\i<m.l.length)/\St w0 A (bZ p (qC a m)::iE a.q a.ov a.fv m.mem::bF a.ow m.eQ::bF a.ll a.ps::nw (yl K m.room) a.ps m.l i::R) w:=by
 obtain⟨a,u⟩:=u.ep;obtain⟨B,u⟩:=u.l6;exact⟨a,B,su u⟩
theorem mN.shut(u:DUK K a m/\a.ps[i]?=some tp/\a.ps.length=m.l.length/\i<m.l.length)(B:St w0 A (bZ p (qC a m)::iE a.q a.ov a.fv m.mem::bF a.ow m.eQ::bF a.ll a.ps::nw (yl K m.room) a.ps m.l i::R) w):St w0 A (mN K p m i tp::R) w:=
 St.er a (St.nZ u (sw B))
structure ary(K:g7)(w:World)(p:Nat)(m:fY)(a:DA):Prop where
 uk:DUK K a m
 b:qx w p (qC a m)
 mem:yk w a.q m.mem
 ow:dz (λ_=>True) w a.ow m.eQ
 ll:dz (λ_=>True) w a.ll a.ps
 th:∀(i:Nat) (s:Ptr) (t:jJ),a.ps[i]?=some s->m.l[i]?=some t->Has (re K s.b m.room t) w
 len:a.ps.length=m.l.length
theorem gR.rd(h:Has (gR K p m) w)(E:K w):∃a,ary K w p m a:=by
 obtain⟨F,u⟩:=h.st
 obtain⟨a,B,u⟩:=gR.open u
 exact⟨a,B,u.hb,Jr u.p1 (B.mem _ E),u.p2.dQ,u.p3.dQ,λi s t h1 h2=>u.p4.aif h1 h2 (Φ:=λw=>Has (re K s.b m.room t) w) λh=>⟨_,h⟩,u.p4.iP⟩
theorem ZM{ps:List Ptr}(u:St w0 A (gY (yl K m.room) ps m.l::R) w)(B:ps[i]?=some tp)(ht:m.l[i]?=some t):St w0 A (re K tp.b m.room t::nw (yl K m.room) ps m.l i::R) w:=u.focus B ht
theorem xg(B:St w0 A (re K tp.b m.room t::mN K p m i tp::R) w):St w0 A (gR K p {m with l:=m.l.set i t}::R) w:=by
 obtain⟨a,⟨u,G,E,hi⟩,B⟩:=mN.open B.p1
 have h1:St w0 A (yl K m.room tp t::nw (yl K m.room) a.ps m.l i::_) w:=B.p4.p5
 have h2:=h1.Df hi E G
 have h3:=h2.p4.p4.p4.p4
 exact gR.shut (m:={m with l:=m.l.set i t}) ⟨u.pr,u.cs,u.ks,u.mem,u.rc⟩ h3
end
def sy(m:fY)(t:jJ):Bool:=match oR t.cC with
 | none=>false
 | some (x,_,_)=>if t.fault≠0\/x.kind=2 then true else if x.kind=3\/x.kind=5\/x.kind=6\/x.kind=7 then !decide (m.room<=t.buf.length)
  else if x.kind=9/\m.eQ.getD (cU (cK m.p) x.name).toNat 0≠-1 then false else decide (t.buf.length=0)
def rf(m:fY)(i:Nat)(t:jJ):List bV:=(if sy m t=true then [⟨1,i,0,[]⟩]else [])++(o8 t.buf).map λk=>⟨2,i,k,[]⟩
def g9(m:fY)(k:Nat):List bV:=(v7 k).flatMap λi=>match m.l[i]? with|some t=>rf m i t|none=>[]
def fx(m:fY):List bV:=if m.fault≠0 then []else g9 m m.l.length
def kL(m:fY):List bV:=if m.fault≠0 then []else(AX m.mem).map λc=>⟨3,0,0,c⟩
theorem tQ{m:fY}{k:Nat}{t:jJ}(h:m.l[k]?=some t):g9 m (k+1)=g9 m k++rf m k t:=by
 unfold g9;rw[F1,Kq];simp[h]
def ZN(t:jJ):Prop:=t.fault=0->∀x a b,oR t.cC=some (x,a,b)->(2<=x.kind/\x.kind<=10)/\(eD t x.e).2=true/\(eD t x.f).2=true
structure my(m:fY):Prop where
 mem:uR m.mem
 th:∀t∈m.l,xV (cX m.p) (cK m.p) t
 tl:m.l.length<=1000
 ow:m.eQ.length=(cK m.p).length
 rm:1<=m.room/\m.room<=16
 st:∀t∈m.l,ZN t
 pz:PZ m.p
def zz(l:List bG):(o8 l).length<=l.length:=by grind[o8]
def M9(m:fY)(i:Nat)(t:jJ):(rf m i t).length<=1+t.buf.length:=by
 have:=zz t.buf
 unfold rf;grind
theorem rh{m:fY}(h:my m):∀k,(g9 m k).length<=k*1001
 | 0=>by simp[g9]
 | k+1=>by
  have u:=rh h k
  cases ht:m.l[k]? with
  | none=>
   have e:g9 m (k+1)=g9 m k:=by unfold g9;rw[F1,Kq];simp[ht]
   grind
  | some t=>
   rw[tQ ht,kH]
   have:=M9 m k t
   have:=(h.th t (j0 ht)).bl
   omega
def zA{m:fY}(h:my m):(fx m).length<=1001000:=by
 unfold fx;split
 .simp
 exact tx (rh h _) (Nat.mul_le_mul_right 1001 h.tl)
def hG(m:fY)(t:jJ)(c:Int):Int:=if (kV t.buf c).isSome=true then(kV t.buf c).getD 0 else js m.mem c
def dL(m:fY)(x:bK):Int:=cU (cX m.p) x.name
def fz(m:fY)(x:bK):Int:=cU (cK m.p) x.name
def fu(m:fY)(x:bK):Int:=o7 m.p (dL m x)
def pF(m:fY)(t:jJ)(y:bG):jJ:={t with buf:=sj m.room t.buf y}
def xh(m:fY)(t:jJ)(x:bK):bX:=⟨if (kV t.buf (dL m x)).isSome=true then 2 else 1,0,dL m x,hG m t (dL m x),0⟩
def ri(m:fY)(t:jJ)(x:bK):fY:=if js m.mem (dL m x)=(eD t x.e).1 then {m with mem:=fe m.mem (dL m x) (eD t x.f).1}else m
def tu(m:fY)(t:jJ)(x:bK):bX:=if js m.mem (dL m x)=(eD t x.e).1 then⟨8,0,dL m x,js m.mem (dL m x),(eD t x.f).1⟩else⟨9,0,dL m x,js m.mem (dL m x),0⟩
def o9(m:fY)(x:bK)(i:Int):fY:={m with eQ:=m.eQ.set (fz m x).toNat i}
def dU(m:fY)(t:jJ)(i:Int)(x:bK):fY×jJ×bX:=
 if x.kind=2 then(m,oS t x.eB (hG m t (dL m x)),xh m t x)
 else if x.kind=3 then(m,pF m t ⟨3,fu m x,dL m x,(eD t x.e).1⟩,⟨3,0,dL m x,(eD t x.e).1,0⟩)
 else if x.kind=5 then(m,pF m t ⟨5,fu m x,0,0⟩,⟨4,0,fu m x,0,0⟩)
 else if x.kind=6 then(m,pF m t ⟨6,fu m x,0,0⟩,⟨5,0,fu m x,0,0⟩)
 else if x.kind=7 then(m,pF m t ⟨7,0,0,0⟩,⟨6,0,0,0,0⟩)
 else if x.kind=8 then(m,t,⟨7,0,0,0,0⟩)
 else if x.kind=4 then(ri m t x,oS t x.eB (js m.mem (dL m x)),tu m t x)
 else if x.kind=9 then(o9 m x i,t,⟨10,0,fz m x,0,0⟩)
 else(o9 m x (-1),t,⟨11,0,fz m x,0,0⟩)
def tS(m:fY)(t:jJ)(i:Int)(x:bK):jJ:=goD { (dU m t i x).2.1 with cC:=gy (dU m t i x).2.1.cC}
def il(m:fY)(i:Int):fY×bX:=match m.l[i.toNat]? with
 | none=>(m,⟨0,0,0,0,0⟩)
 | some t=>if t.fault≠0 then({m with fault:=t.fault,ke:=i},⟨16,i,t.fault,0,0⟩)else match oR t.cC with
  | none=>(m,⟨0,0,0,0,0⟩)
  | some (x,_,_)=>if x.kind=10/\m.eQ.getD (fz m x).toNat 0≠i then({m with fault:=3,ke:=i},⟨16,i,3,0,0⟩)
   else({ (dU m t i x).1 with l:=m.l.set i.toNat (tS m t i x)},{ (dU m t i x).2.2 with t:=i})
def sQ(m:fY)(t:jJ)(q:bV):fY:={m with mem:=jG m.mem (dB t.buf q.i),l:=m.l.set q.t.toNat {t with buf:=jF t.buf q.i}}
def Hy(l:List bK):Bk:=(sN l).getD .nil
def vP(t:cL):jJ:=⟨t.dN,po t.dN.length 0,jh (Hy t.body) false [],0,[]⟩
def UN(t:cL):jJ:=goD (vP t)
def qD(m:fY)(l:List cL):fY:={m with eQ:=po (cK m.p).length (-1),l:=l.map UN}
def fW(m:fY)(q:bV):Option (List Int):=if q.kind=3/\q.t=0/\q.i=0/\m.fault=0 then fh m.mem q.cut else none
def oU(m:fY)(u:List Int):fY:={m with mem:=mr m.mem u,dC:=m.dC+1}
def uH(m:fY):List cL:=if m.p.recover.length=0 then [⟨⟨#[]⟩,[],[],0⟩]else m.p.recover
def od(m:fY)(q:bV):fY×bX×Int:=match fW m q with
 | some u=>(qD (oU m u) (uH m),⟨15,0,0,qn q.cut q.cut.length,0⟩,0)
 | none=>if (fx m).any (lR q)=true then
   (if q.kind=2 then(match m.l[q.t.toNat]? with|some t=>(sQ m t q,sO q.t (dB t.buf q.i),0)|none=>(m,⟨0,0,0,0,0⟩,13))else((il m q.t).1,(il m q.t).2,0))
  else(m,⟨0,0,0,0,0⟩,13)
def vk(t:jJ):Bool:=decide (t.cC.length=0)&&decide (t.buf.length=0)
def oe(m:fY):Bool:=decide (m.fault=0)&&!(v7 m.l.length).any λi=>match m.l[i]? with|some t=>!vk t|none=>false
def pG(m:fY):Bool:=decide (m.fault=0)&&(!oe m&&decide (((fx m).length:Int)=0))
def rj(m:fY):mJ:=⟨m.dC,m.fault,m.ke,oe m,pG m⟩
def xW(m:fY)(c:gO):Bool:=decide ((qA (iu m.p) (m.mem.l.take (eJ m.p).toNat) c.e).2=0)&&decide ((qA (iu m.p) (m.mem.l.take (eJ m.p).toNat) c.e).1≠0)
def pQ(m:fY):List Bool:=m.p.dX.map (xW m)
def AZ(p:cE):List Int:=(v7 (cX p).length).map fun (i:Nat)=>o7 p (i:Int)
def xi(p:cE)(room:Int):fY:=⟨p,room,Jt (AZ p) (eJ p) (fo p),[],[],0,0,0⟩
def gB(p:cE)(room:Int):fY:=qD (xi p room) p.threads
def C141(K Φ:g7)(p:Nat)(room:Int)(t:jJ)(w:World)(E:Has (eK K Φ p room t) w)(Y:t.buf.length<=1000):CR 141 [.pointer (some ⟨p,0,none⟩)] w (λv w'=>v=.bool (decide (t.buf.length=0))/\Ext w w'):=by
 obtain⟨G,W,rg,pl,es,O,J,I,M,V,U,_⟩:=eK.rd E;have B:=J.cell (o:=0) rfl;have u:=St.start w;refine eU Tryz.func141 ?_;exact aD (aA oC (bU z9 (B.ext u.aF) (ef am9 u (C153 G _ _ _ (I.ext u.aF) bL) λ_ _ _ u=>aH fS u.dQ (aG ⟨vb (ew.2 bL),u.drop.aF⟩))))
def C138(K Φ:g7)(p:Nat)(m:fY)(q:Nat)(t:jJ)(w:World)(hm:Has (gR K p m) w)(I:∀w',Ext w w'->K w')(Y:my m)(hh:Has (eK K Φ q m.room t) w)(B6:t∈m.l):CR 138 [.pointer (some ⟨p,0,none⟩),.pointer (some ⟨q,0,none⟩)] w (λv w'=>v=.bool (sy m t)/\Ext w w'):=by
 obtain⟨a,J⟩:=gR.rd hm (I _ (Ext.refl _));have V:=J.b.cell (o:=7) rfl;have UO:=J.b.cell (o:=10) rfl;have G:=Y.th t B6;have GW:=G.bl;have aj1:(cK m.p).length<=500:=by unfold cK;rw[mv];exact Y.pz.eE
 have oy:=Du G.p;have EO:=G.cl;obtain⟨bp,nv,rg,pl,es,hk,uG,hB,Dx,UM,Jy,_⟩:=eK.rd hh;have U:=uG.cell (o:=0) rfl;have Z:=uG.cell (o:=4) rfl;have u:=St.start w;refine pJ Tryz.func138 (pl:=ax6) ?_;refine dO Zz (C137 K q t bp nv rg pl es _ _ uG UM Jy I G.p bL) ?_;rintro v _ ⟨he,hv⟩;have u:=u.ext he
 rcases hv with⟨ey,rfl⟩|⟨x,xa,xb,xv,av,bv,ra,rb,vE,rfl,zO,_⟩
 .exact aN rfl (aN rfl (aN rfl (aN rfl (aQ u jk λ_ _ u=>aK (x:=(⟨0,⟨#[]⟩,⟨#[]⟩,cI,cI,0,0,0,0⟩:aZ)) u eG rfl rfl λ_ u=>bP (gN ⟨vb (by unfold sy;rw[ey]),u.drop.aF⟩)))))
 obtain⟨ge,gf,rfl,_,_⟩:=iU (zO _ (I _ u.aF));have hx:=(G.top vE).1;have B:sy m t=(if t.fault≠0\/x.kind=2 then true else if x.kind=3\/x.kind=5\/x.kind=6\/x.kind=7 then !decide (m.room<=t.buf.length)else if x.kind=9/\m.eQ.getD (cU (cK m.p) x.name).toNat 0≠-1 then false else decide (t.buf.length=0)):=by unfold sy;rw[vE]
 refine aN rfl (aN rfl (aN rfl (aN rfl (aQ u jk λb5 w2 u=>aK (x:=(⟨x.kind,x.eB,x.name,ge,gf,x.n,x.body,x.eo,x.at_⟩:aZ)) u eG rfl rfl λw3 u=>bP (fa ?_)))));refine⟨λE w'=>E=.bool (decide (t.fault≠0\/x.kind=2))/\w'=w3,?_,?_⟩
 .exact aD (aA wk (bU bO (Z.ext u.aF) (bT (aC (λ_=>⟨vb (ei bL).symm,rfl⟩) λ_=>aA dK (aB (v:=hH x.kind) bO u.hb rfl (aG ⟨vb (ew.2 bL),rfl⟩))))))
 rintro _ w4 ⟨rfl,rfl⟩ _;refine aC (λO=>?_) (λO=>?_)
 .exact⟨vb (by rw[B,ee O]),u.drop.aF⟩
 rw[eb O]at B;refine⟨λE w'=>E=.bool (decide (x.kind=3\/x.kind=5\/x.kind=6\/x.kind=7))/\w'=w4,?_,?_⟩
 .refine aA dK (aB (v:=hH x.kind) bO u.hb rfl ?_);exact aG (aC (λ_=>⟨vb (ei bL).symm,rfl⟩) λ_=>aA dK (aB (v:=hH x.kind) bO u.hb rfl (aG (aC (λ_=>⟨vb (ei bL).symm,rfl⟩) λ_=>aA dK (aB (v:=hH x.kind) bO u.hb rfl (aG (aC (λ_=>⟨vb (ei bL).symm,rfl⟩) λ_=>aA dK (aB (v:=hH x.kind) bO u.hb rfl (aG ⟨vb (ew.2 bL),rfl⟩)))))))))
 rintro _ _ ⟨rfl,rfl⟩ _;refine aC (λc2=>?_) (λc2=>?_)
 .exact aD (aA oC (bU z9 (U.ext u.aF) (aS af0 u (C215 bp _ _ _ (hB.ext u.aF)) λ_ _ u=>bP ⟨vb (by rw[B,ee c2]),u.drop.aF⟩)))
 rw[eb c2]at B;refine⟨λE w'=>E=.bool (decide (x.kind=9/\m.eQ.getD (cU (cK m.p) x.name).toNat 0≠-1))/\St w aY [bZ b5 (ia (⟨x.kind,x.eB,x.name,ge,gf,x.n,x.body,x.eo,x.at_⟩:aZ))] w',?_,?_⟩
 .have u:=u.drew;refine aA dK (aB (v:=hH x.kind) bO u.hb rfl (aG (aC (λc3=>?_) λ_=>⟨vb (ej bL).symm,u⟩)));obtain⟨j,hj,BR,_⟩:=lE (dI.1 (hx.lk (.inl c3)));have Co:=(ir.1 BR).1;have how:=Y.ow;refine aD (aA uX (bU eP (UO.ext u.aF) (aD (aA IH (bU iW (V.ext u.aF) (aA fX (aB (v:=.string x.name) gn u.hb rfl (aS Ha u (C159 _ (cK m.p) x.name _ (J.uk.ks _ (I _ u.aF)) bL) λ_ he u=>?_))))))));refine⟨aI eP (UO.ext u.aF),?_⟩;obtain⟨ov,ZO⟩:=gx m.eQ (i:=(cU (cK m.p) x.name).toNat) bL
  refine aM cQ (J.ow.ext u.aF) bL ZO (λq71 M=>aE bO M (bT ?_));refine⟨vb (ew.2 ?_),u⟩;rw[n0,ZO];exact⟨λh=>⟨c3,h⟩,λh=>h.2⟩
 rintro _ _ ⟨rfl,u⟩ _;refine aC (λW=>?_) (λW=>?_)
 .exact⟨vb (by rw[B,ee W]),u.drop.aF⟩
 exact aS ahf u (C141 K Φ q m.room t _ (hh.ext u.aF) GW) (λ_ _ u=>⟨vb (by rw[B,eb W]),u.drop.aF⟩)
def C67(K:g7)(p:Nat)(m:fY)(w:World)(Z:Has (gR K p m) w)(Y:∀w',Ext w w'->K w')(I:my m):CR 67 [.pointer (some ⟨p,0,none⟩)] w (λv w'=>kZ (fG v (fx m)) w w'):=by
 obtain⟨a,B⟩:=gR.rd Z (Y _ (Ext.refl _));have Qj:=B.b.cell (o:=11) rfl;have UP:=B.b.cell (o:=13) rfl;have hlen:=B.len;have OD:=I.tl;have u:=St.start w;refine eU Tryz.func67 ?_;refine aD (aA xG (bU bO (UP.ext u.aF) (bT (aC (λc=>?_) λc=>?_))))
 .have O:fx m=[]:=by unfold fx;rw[ee c]
  rw[O];exact u.IQ.fresh
 have O:fx m=g9 m m.l.length:=by unfold fx;rw[eb c]
 rw[O];refine aD (aA uY (bU IF (Qj.ext u.aF) (aH KQ (B.ll.ext u.aF) ?_)));refine⟨λE o y G=>∃k:Nat,y=hH (k:Int)/\E=a.ps.length-k/\k<=a.ps.length/\St w aY [fG o (g9 m k)] G,⟨_,0,rfl,rfl,kO _,u.IQ⟩,?_⟩;rintro E o _ G ⟨k,rfl,rfl,hk,u⟩ _;have oy:=rh I k;have Oq:k*1001<=1001000:=bL
 refine aO (aC (λc1=>?_) λc1=>?_);rotate_left
 .rw[show k=m.l.length from bL]at u;exact u.fresh
 obtain⟨e,V⟩:=gx a.ps (i:=((k:Nat):Int).toNat) bL;obtain⟨t,ht⟩:=gx m.l (i:=k) bL;have B6:=j0 ht;have GW:=(I.th t B6).bl;have hth:=B.th k e t V ht;obtain⟨bp,nv,rg,pl,es,J4,uG,hB,Dx,UM,Jy,_⟩:=eK.rd hth;have M:=uG.cell (o:=0) rfl;refine aM KQ (B.ll.ext u.aF) bL V (λq U=>aE GP U ?_);refine⟨λjv w'=>St w aY [fG jv (g9 m k++(if sy m t=true then [(⟨1,k,0,[]⟩:bV)]else []))] w',?_,?_⟩
 .refine aS aro u (C138 K _ p m e.b t _ (Z.ext u.aF) (λ_ e=>Y _ (u.aF.then e)) I (hth.ext u.aF) B6) (λ_ V u=>aX (λW=>?_) λW=>?_)
  .refine pop (B5 1 (k:Int)) (have u:=u.gz (Φ:=λw=>mL w (⟨1,(k:Int),0,cI⟩:bN) (⟨1,(k:Int),0,[]⟩:bV)) (λw=>⟨cI,rfl,DL.nil w⟩);gF (x:=(⟨1,(k:Int),0,[]⟩:bV)) (s:=(⟨1,(k:Int),0,cI⟩:bN)) u jL cZ λs29 _ u=>gd u.p1 jL (by rw[lH];omega) cZ λs30 _ u=>?_);rw[ee W];exact u
  rw[eb (by rw[W];decide),oj];exact u
 rintro o2 _ u _;refine aD (aA oC (bU z9 (M.ext u.aF) (ef am5 u (C139 bp _ _ _ (hB.ext u.aF) bL) λJ _ cM u=>?_)));have EO:=zz t.buf;refine aH cQ u.dQ ?_;refine⟨λE o y G=>∃j:Nat,y=hH (j:Int)/\E=(o8 t.buf).length-j/\j<=(o8 t.buf).length/\St w aY [fG o (g9 m k++(if sy m t=true then [(⟨1,k,0,[]⟩:bV)]else [])++((o8 t.buf).take j).map λi=>(⟨2,k,i,[]⟩:bV)),bF J (o8 t.buf)] G,⟨_,0,rfl,rfl,kO _,by rw[List.take_zero,List.map_nil,oj];exact u.p1⟩,?_⟩;rintro E o3 _ _ ⟨j,rfl,rfl,hj,u⟩ _;refine aO (aC (λc3=>?_) λc3=>?_)
 .obtain⟨y,hy⟩:=gx (o8 t.buf) (i:=((j:Nat):Int).toNat) bL;exact aM cQ u.p1.dQ bL hy (λ_ U=>aE bO U (pop (CG 2 (k:Int) y) (have u:=u.gz (Φ:=λw=>mL w (⟨2,(k:Int),y,cI⟩:bN) (⟨2,(k:Int),y,[]⟩:bV)) (λw=>⟨cI,rfl,DL.nil w⟩);gF (x:=(⟨2,(k:Int),y,[]⟩:bV)) (s:=(⟨2,(k:Int),y,cI⟩:bN)) u jL cZ λ_ _ u=>gd u.p1 jL (by simp only[kH,mv,lQ,lH];split<;>simp<;>omega) cZ λ_ _ u=>aJ bL ⟨_,bL,j+1,rfl,rfl,bL,by rw[<- gI (k:=j) hy,<- mX];exact u⟩)))
 rw[kp bL]at u;refine aJ bL ?_;refine⟨_,bL,k+1,rfl,rfl,bL,?_⟩;rw[tQ ht];unfold rf;rw[<- mX];exact u.p1.drop
def ahk:PL 227:=dG Tryz.func227
def ayi:PL 53:=dG Tryz.func53
def C158(K:g7)(p:Nat)(m:fY)(i kind:Int)(F:Nat->Prop)(w:World)(E:(gR K p m).p w F):CR 158 [.pointer (some ⟨p,0,none⟩),hH i,hH kind] w (λv w'=>v=hM (⟨16,i,kind,0,0⟩:bX)/\mH F (gR K p {m with fault:=kind,ke:=i}) w w'):=by
 have u:=St.begin E;refine eU Tryz.func158 ?_;obtain⟨a,B,u⟩:=gR.open u;exact aQ u nI (λ_ _ u=>have u:=u.enc (cs':=ia (⟨0,0,0,0,0⟩:bX)) rfl;aD (aA xG (aV u.p1 bO (dM rfl) rfl λ_ u=>aD (aA RJ (aV u bO (dM rfl) rfl λ_ u=>pop (tn 16 i kind) (aK (x:=(⟨16,i,kind,0,0⟩:bX)) u.p1 fg rfl rfl λ_ u=>aE fg u.At ⟨rfl,(gR.shut (m:={m with fault:=kind,ke:=i}) ⟨B.pr,B.cs,B.ks,B.mem,B.rc⟩ u.drop).mut⟩))))))
def C160(K:g7)(p:Nat)(m:fY)(n:Nat)(tp:Ptr)(t:jJ)(x:bK)(V:aZ)(F:Nat->Prop)(c:Int)(w:World)(hF:(sep (re K tp.b m.room t) (mN K p m n tp)).p w F)(E:∀w',gC F w w'->K w')(G:xV (cX m.p) (cK m.p) t)(O:uR m.mem)(zO:∀w,K w->mL w V x)(Dx:0<=cU t.names x.eB):CR 160 [.pointer (some ⟨p,0,none⟩),.pointer (some ⟨tp.b,0,none⟩),hM V,hH c] w (λv w'=>v=hM (⟨if (kV t.buf c).isSome=true then 2 else 1,0,c,hG m t c,0⟩:bX)/\mH F (sep (re K tp.b m.room (oS t x.eB (hG m t c))) (mN K p m n tp)) w w'):=by
 have u:=(St.begin hF).split;obtain⟨W,Z,rfl,_,_⟩:=iU (zO _ (E _ u.aF));obtain⟨j,hj,BR,_⟩:=lE (dI.1 Dx);have Co:=(ir.1 BR).1;have ZB:=G.nb;have Gm:=G.rl;have GW:=G.bl;refine aeo _ _ _ _ _ _ ?_;unfold S160;refine cJ (x:=(⟨x.kind,x.eB,x.name,W,Z,x.n,x.body,x.eo,x.at_⟩:aZ)) u (λb6 _ u=>aQ u nI λb8 _ u=>?_);have u:=(u.enc (cs':=ia (⟨0,0,0,0,0⟩:bX)) rfl).p2;obtain⟨J,nv,rg,pl,es,U,u⟩:=eK.open u;refine aD (aA oC (aB z9 u.hb rfl (aS anl u (C226 J c m.room t.buf _ (Ds u.p1) bL) λ_ he u=>aN rfl (aN rfl ?_))))
 refine⟨λn9 I w'=>n9=hH (hG m t c)/\I=hH (if (kV t.buf c).isSome=true then 2 else 1)/\St w F [bZ tp.b (AY J nv rg pl t.fault),iX J m.room t.buf,bF rg t.dN,bF pl (Og es),eH (λw=>Dw K w es t.cC/\True),bZ b8 (ia (⟨0,0,0,0,0⟩:bX)),bZ b6 (ia (⟨x.kind,x.eB,x.name,W,Z,x.n,x.body,x.eo,x.at_⟩:aZ)),mN K p m n tp] w',?_,?_⟩
 .refine bP (aX (λB=>?_) λB=>?_)
  .have h1:(kV t.buf c).isSome=false:=by simpa using B
   have u:=u.p7;obtain⟨a,Y,u⟩:=mN.open u;exact aD (aA sX (aB KP u.hb rfl (aS ahk u (ahc a.q m.mem c _ (Jr u.p1 (Y.1.mem _ (E _ u.aF))) O) λ_ _ u=>aN rfl (aN rfl (have u:=(((((((mN.shut (m:=m) Y u.p4.p4.p4.p4.p4).p7).p7).p7).p7).p7).p7).p7;⟨by unfold hG;rw[eb (by rw[h1];decide)],by rw[eb (by rw[h1];decide)],u⟩)))))
  have h1:(kV t.buf c).isSome=true:=by simpa using B
  exact⟨by unfold hG;rw[ee h1],by rw[ee h1],u⟩
 rintro _ _ _ ⟨rfl,rfl,u⟩ _;have u:=u.drew;refine aD (aA Ae (aB eP u.hb rfl (aD (aA Ad (aB iW u.hb rfl (aA iy (aB (v:=.string x.eB) gn u.p6.hb rfl (aS Ha u (C159 _ t.names x.eB _ (U _ (E _ u.aF)) bL) λ_ he u=>?_))))))));refine⟨aI eP (u.hb.cell rfl),?_⟩;exact dJ u.p2 cQ bL bL (λ_ M=>jj (hG m t c:Int) u.p2 bO M bL λ_ u=>pop (mw (if (kV t.buf c).isSome=true then 2 else 1) c (hG m t c)) (aK (x:=(⟨if (kV t.buf c).isSome=true then 2 else 1,0,c,hG m t c,0⟩:bX)) u.p5 fg rfl rfl λ_ u=>aE fg u.At (have u:=eK.shut (Φ:=λ_=>True) (t:=oS t x.eB (hG m t c)) U u.drop.p5.drop.p4.p4.p2.p4.p4;have u:=u.p1.p1;⟨rfl,(St.join u).mut⟩)))
def C163(K:g7)(p:Nat)(m:fY)(n:Nat)(tp:Ptr)(t:jJ)(x:bK)(xv:aZ)(F:Nat->Prop)(w:World)(hF:(sep (re K tp.b m.room t) (mN K p m n tp)).p w F)(E:∀w',gC F w w'->K w')(jK:xV (cX m.p) (cK m.p) t)(U:uR m.mem)(zO:∀w,K w->mL w xv x)(Dx:0<=cU t.names x.eB)(oq:MB m.mem 1000000)(VL:x.e.length<=1000/\x.f.length<=1000)(hv1:(eD t x.e).2=true)(V:(eD t x.f).2=true):CR 163 [.pointer (some ⟨p,0,none⟩),.pointer (some ⟨tp.b,0,none⟩),hM xv,hH (dL m x)] w (λv w'=>v=hM (tu m t x)/\mH F (sep (re K tp.b m.room (oS t x.eB (js m.mem (dL m x)))) (mN K p (ri m t x) n tp)) w w'):=by
 have u:=(St.begin hF).split;obtain⟨ge,gf,rfl,_,_⟩:=iU (zO _ (E _ u.aF))
 have Qi:∀w,K w->dz (λ_=>True) w (hM ge) x.e/\dz (λ_=>True) w (hM gf) x.f:=λw W=>by
  obtain⟨_,_,h4,h5,h6⟩:=iU (zO w W);cases h4
  exact⟨h5,h6⟩
 obtain⟨j,hj,BR,_⟩:=lE (dI.1 Dx);have Co:=(ir.1 BR).1;have ZB:=jK.nb;have Gm:=jK.rl;have ht1:{t with fault:=if (eD t x.e).2=true then t.fault else 2}=t:=by rw[hv1];rfl
 have Y:{t with fault:=if (eD t x.f).2=true then t.fault else 2}=t:=by rw[V];rfl
 obtain⟨c,hc⟩:∃c,c=dL m x:=⟨_,rfl⟩;rw[<- hc];refine aep _ _ _ _ _ _ ?_;unfold S163;refine cJ (x:=(⟨x.kind,x.eB,x.name,ge,gf,x.n,x.body,x.eo,x.at_⟩:aZ)) u (λb6 _ u=>aQ u nI λb8 _ u=>?_);have u:=(u.enc (cs':=ia (⟨0,0,0,0,0⟩:bX)) rfl).p3;obtain⟨a,B,u⟩:=mN.open u;refine aD (aA sX (aB KP u.hb rfl (aS ahk u (ahc a.q m.mem c _ (Jr u.p1 (B.1.mem _ (E _ u.aF))) U) λ_ he u=>aN rfl (aN rfl (aA iN (aB (v:=hM ge) jy u.p6.hb rfl (have u:=u.p7;bD MT u (H':=λ_=>re K tp.b m.room t) (Φ:=λv _=>v=.tuple #[hH (eD t x.e).1,.bool (eD t x.e).2]) (λI O M=>?_) ?_)))))))
 .have:=C161 K _ tp.b m.room t I _ x.e _ O (λw' hc=>E w' (M w' hc).aF) (Qi _ (E _ u.aF)).1 bL bL;rw[ht1]at this;exact this
 rintro _ _ rfl u;refine aN rfl (aN rfl (aA jS (aB (v:=hM gf) jy u.p7.hb rfl (bD MT u (H':=λ_=>re K tp.b m.room t) (Φ:=λv _=>v=.tuple #[hH (eD t x.f).1,.bool (eD t x.f).2]) (λI O M=>?_) ?_))))
 .have:=C161 K _ tp.b m.room t I _ x.f _ O (λw' hc=>E w' (M w' hc).aF) (Qi _ (E _ u.aF)).2 bL bL;rw[Y]at this;exact this
 rintro _ _ rfl u;refine aN rfl (aN rfl ?_);obtain⟨bp,nv,rg,pl,es,hk,u⟩:=eK.open u;have u:=u.drew;refine aD (aA Ae (aB eP u.hb rfl (aD (aA Ad (aB iW u.hb rfl (aA iy (aB (v:=.string x.eB) gn u.p11.hb rfl (aS Ha u (C159 _ t.names x.eB _ (hk _ (E _ u.aF)) bL) λ_ he u=>?_))))))));refine⟨aI eP (u.hb.cell rfl),?_⟩;refine dJ u.p2 cQ bL bL (λ_ ayk=>jj (js m.mem c:Int) u.p2 bO ayk bL λw6' u=>have u:=eK.shut (Φ:=λ_=>True) (t:=oS t x.eB (js m.mem c)) hk u.p4.p4.p2.p4.p4;bT (aC (λJ=>?_) λJ=>?_))
 .have G:ri m t x=m:=by unfold ri;rw[<- hc,eb J]
  have Z:tu m t x=⟨9,0,c,js m.mem c,0⟩:=by unfold tu;rw[<- hc,eb J]
  refine pop (mw 9 c (js m.mem c)) (aK (x:=(⟨9,0,c,js m.mem c,0⟩:bX)) u.p6 fg rfl rfl λ_ u=>aE fg u.At ?_);have u:=(mN.shut (m:=m) B u.drop.p6.drop.p5.p5.p5.p5.p5).p1;rw[G,Z];exact⟨rfl,(St.join u).mut⟩
 have G:ri m t x={m with mem:=fe m.mem c (eD t x.f).1}:=by unfold ri;rw[<- hc,ee (by simpa using J)]
 have Z:tu m t x=⟨8,0,c,js m.mem c,(eD t x.f).1⟩:=by unfold tu;rw[<- hc,ee (by simpa using J)]
 refine aD (aA sX (aB KP u.p1.hb rfl (have u:=u.p2;bD afV u (H':=λ_=>iE a.q a.ov a.fv (fe m.mem c (eD t x.f).1)) (Φ:=λ_ _=>True) (λI O M=>?_) ?_)))
 .exact(C156 a.q a.ov a.fv m.mem I c _ _ O (λw' hc=>B.1.mem _ (E w' (M w' hc).aF)) U oq).mono λ_ _ r=>r.mono λ_ _ h=>⟨trivial,h.2⟩
 rintro _ _ _ u;refine pop (yH 8 c (js m.mem c) (eD t x.f).1) (aK (x:=(⟨8,0,c,js m.mem c,(eD t x.f).1⟩:bX)) u.p6 fg rfl rfl λ_ u=>aE fg u.At ?_);have u:=mN.shut (m:={m with mem:=fe m.mem c (eD t x.f).1}) (⟨⟨B.1.pr,B.1.cs,B.1.ks,λw W=>(B.1.mem w W).write,B.1.rc⟩,B.2⟩) u.drop.p6.drop.p5.p5.p5.p3.p5;have u:=u.p1;rw[G,Z];exact⟨rfl,(St.join u).mut⟩
def C87(cv:Value)(cut:List Int)(w:World)(I:dz (λ_=>True) w cv cut)(U:cut.length<=1000000):CR 87 [cv] w (λv w'=>v=hH (qn cut cut.length)/\Ext w w'):=by
 have u:=St.start w;refine ajY _ _ _ ?_;unfold S87;refine aH cQ (I.ext u.aF) ?_;refine⟨λE n x B=>∃k:Nat,n=hH (qn cut k)/\x=hH (k:Int)/\E=cut.length-k/\k<=cut.length/\St w aY [] B,⟨_,0,rfl,rfl,rfl,kO _,u⟩,?_⟩;rintro E _ _ B ⟨k,rfl,rfl,rfl,O,u⟩ _;refine aO (aC (λV=>?_) λ_=>⟨by rw[show cut.length=k from bL],u.aF⟩);obtain⟨M,G⟩:=gx cut (i:=(k:Int).toNat) bL;exact aM cQ I bL G (λ_ J=>aE bO (J.ext u.aF) (wz (uo (aJ bL ⟨_,bL,k+1,by rw[Fk (k:=k) G],rfl,rfl,bL,u⟩))))
def C88(q x:bV)(W:bN)(b:Nat)(V:bN)(w:World)(hq:mL w W q)(B:At (λ_=>True) w (.pointer (some ⟨b,0,none⟩)) V)(I:mL w V x):CR 88 [hM W,(.pointer (some ⟨b,0,none⟩))] w (λv w'=>v=.bool (lR x q)/\Ext w w'):=by
 obtain⟨M,rfl,atT⟩:=hq;obtain⟨E,rfl,G⟩:=I;have u:=St.start w;refine eU Tryz.func88 ?_;refine cJ u (λJ _ u=>⟨λY w'=>Y=.bool (lR x q)/\St w aY [bZ J (ia (⟨q.kind,q.t,q.i,M⟩:bN))] w',?_,?_⟩)
 .refine aA qX (aB (v:=hH q.kind) bO u.hb rfl (bW x.kind qX B rfl rfl λ_ U=>aE bO (U.ext u.aF) (aG (aC (λfN=>aA mG (aB (v:=hH q.t) bO u.hb rfl (bW x.t mG B rfl rfl λ_ X5=>aE bO (X5.ext u.aF) (aG (aC (λjC=>aA sW (aB (v:=hH q.i) bO u.hb rfl (bW x.i sW B rfl rfl λ_ Z=>aE bO (Z.ext u.aF) (aG (aC (λkC=>?_) λ_=>⟨vb (by unfold lR;first|(simp_all;done)|grind),u⟩))))) λ_=>⟨vb (by unfold lR;first|(simp_all;done)|grind),u⟩))))) λ_=>⟨vb (by unfold lR;first|(simp_all;done)|grind),u⟩))))
  refine bW E uW B rfl rfl (λ_ Ax=>aE eP (Ax.ext u.aF) ?_);have O:=DL.flat G;exact aH cQ (O.ext u.aF) (aG ⟨vb (by unfold lR;first|(simp_all;done)|grind),u⟩)
 rintro _ _ ⟨rfl,u⟩ _;exact⟨rfl,u.drop.aF⟩
theorem qx.ext{w w':World}{b:Nat}{cs:List Value}(h:qx w b cs)(e:Ext w w'):qx w' b cs:=h.of_eq (e.bZ b h.lt λh=>h)
def B7(s:ByteArray)(a:Int)(t:ByteArray):Bool:=decide (a+t.size<=s.size)&&decide (s.extract a.toNat (a+t.size).toNat=t)
def whF(p:UInt8->Bool)(s:ByteArray):Nat->Nat->Nat
 | 0,a=>a
 | n+1,a=>match (iI s)[a]? with
  | some c=>if p c=true then whF p s n (a+1)else a
  | none=>a
def vQ(p:UInt8->Bool)(s:ByteArray)(a:Nat):Nat:=whF p s (s.size-a) a
section
variable {p:UInt8->Bool}{s:ByteArray}{k:Nat}{c:UInt8}
theorem JD(h:s.size<=k):vQ p s k=k:=by unfold vQ;simp_all[whF]
theorem qE(h:(iI s)[k]?=some c):k<s.size:=by have:=(ir.1 h).1;rw[eV]at this;exact this
theorem Fo(h:(iI s)[k]?=some c)(B:p c=true):vQ p s k=vQ p s (k+1):=by
 have u:=qE h
 unfold vQ
 rw[show s.size-k=(s.size-(k+1))+1 from bL,whF,h]
 grind
theorem Fp(h:(iI s)[k]?=some c)(B:p c=false):vQ p s k=k:=by
 have u:=qE h
 unfold vQ
 rw[show s.size-k=(s.size-(k+1))+1 from bL,whF,h]
 grind
end
def tV(c:UInt8):Bool:=decide (c.toNat=32\/c.toNat=9\/c.toNat=10\/c.toNat=13)
def xj(c:UInt8):Bool:=decide (c.toNat≠10)
def sB(c:UInt8):Bool:=gw c.toNat||j6 c.toNat
def vR(c:UInt8):Bool:=j6 c.toNat
def kW(s:ByteArray):Nat->Nat->Option Nat
 | 0,_=>none
 | n+1,a=>match (iI s)[a]? with
  | none=>some a
  | some c=>if tV c=true then kW s n (a+1)else if B7 s a ⟨#[47,47]⟩=true then kW s n (vQ xj s a)else some a
theorem Qk{s:ByteArray}{n a r:Nat}(h:kW s n a=some r):∃k,n=k+1:=by
 cases n with
 | zero=>cases h
 | succ k=>grind
section
variable {s:ByteArray}{n a r:Nat}{c:UInt8}
theorem UQ(h:kW s (n+1) a=some r)(u:s.size<=a):r=a:=by
 unfold kW at h;rw[mC (by rw[eV];exact u)]at h;grind
theorem CH(h:kW s (n+1) a=some r)(hc:(iI s)[a]?=some c)(hb:tV c=true):kW s n (a+1)=some r:=by
 grind[kW]
theorem Hz(h:kW s (n+1) a=some r)(hc:(iI s)[a]?=some c)(hb:tV c=false)(u:B7 s a ⟨#[47,47]⟩=true):kW s n (vQ xj s a)=some r:=by
 grind[kW,vQ,xj]
theorem Nb(h:kW s (n+1) a=some r)(hc:(iI s)[a]?=some c)(hb:tV c=false)(u:B7 s a ⟨#[47,47]⟩=false):r=a:=by
 unfold kW at h;grind
theorem ZP:∀(n a:Nat) (p:UInt8->Bool),a<=whF p s n a/\whF p s n a<=max a s.size
 | 0,a,p=>⟨o5 _,by unfold whF;omega⟩
 | n+1,a,p=>by
  unfold whF
  cases h:(iI s)[a]? with
  | none=>grind
  | some c=>
   dsimp only
   split
   .have:=ZP n (a+1) p;have:=qE h;omega
   omega
theorem Ql(p:UInt8->Bool):a<=vQ p s a/\vQ p s a<=max a s.size:=ZP _ _ _
theorem A0:∀{n a r:Nat},kW s n a=some r->a<=s.size->a<=r/\r<=s.size
 | 0,_,_,h,_=>by cases h
 | n+1,a,r,h,B=>by
  cases hc:(iI s)[a]? with
  | none=>unfold kW at h;grind
  | some c=>
   have u:=qE hc
   cases hb:tV c with
   | true=>have:=A0 (CH h hc hb) bL;omega
   | false=>
    cases hr:B7 s a ⟨#[47,47]⟩with
    | true=>have h1:=Ql (s:=s) (a:=a) xj;have:=A0 (Hz h hc hb hr) bL;omega
    | false=>have:=Nb h hc hb hr;omega
end
def C1:List ByteArray:=[⟨#[61,61]⟩,⟨#[33,61]⟩,⟨#[60,61]⟩,⟨#[38,38]⟩,⟨#[124,124]⟩]
def qt(s:ByteArray)(a:Nat)(c:UInt8):Int:=if C1.any (B7 s a)=true then 2 else if (iI (hZ #[40,41,123,125,59,44,61,60,33,43,45,42,47,37])).any (λx=>decide ((x.toNat:Int)=c.toNat))=true then 1 else 0
def tz(l:List bQ)(i:Int)(t:ByteArray):Bool:=decide (0<=i)&&(match l[i.toNat]? with|some x=>decide (x.text=t)&&decide (x.kind≠2)&&decide (1<=x.kind)&&decide (x.kind<=3)|none=>false)
def m6(l:List bQ)(i:Int):Int:=match (if 0<=i then l[i.toNat]? else none)with
 | some x=>x.at_
 | none=>match l.getLast? with
  | some x=>x.at_+x.text.size
  | none=>0
def aeu:∀t∈C1,t.size<=1000000:=cZ
def sC{l:List bQ}{i:Int}{t:ByteArray}(h:tz l i t=true):0<=i/\i<l.length:=by
 unfold tz at h
 grind
def C254(s t:ByteArray)(i:Int)(w:World)(J:s.size<=1000000)(G:t.size<=1000000)(I:0<=i/\i<=2000000):CR 254 [.string s,hH i,.string t] w (λv w'=>v=.bool (B7 s i t)/\Ext w w'):=by
 have u:=St.start w;refine eU Tryz.func254 ?_;refine⟨λE w'=>E=.bool (B7 s i t)/\w=w',fb ic (aJ bL (fb ic (ga (aC (λ_=>fb ic (aJ bL (Lk ic bL bL bL (iG ⟨vb (by unfold B7;grind),rfl⟩)))) λ_=>⟨vb (by unfold B7;grind),rfl⟩)))),?_⟩;rintro _ _ ⟨rfl,B⟩ _;subst B;exact⟨rfl,u.aF⟩
theorem C205(s:ByteArray)(i N r:Nat)(w:World)(hz:s.size<=4000)(h0:i<=s.size)(hr:kW s N i=some r):CR 205 [.string s,hH (i:Int)] w (λv w'=>v=hH (r:Int)/\Ext w w'):=by
 have hz0:=hz;replace hz:s.size<=1000000:=bL
 have u:=St.start w;refine eU Tryz.func205 ?_;refine⟨λG x E=>∃a:Nat,x=hH (a:Int)/\a<=s.size/\kW s G a=some r/\St w aY [] E,⟨N,i,rfl,h0,hr,u⟩,?_⟩;rintro G _ E ⟨a,rfl,ha,I,u⟩ _;obtain⟨k,rfl⟩:=Qk I;refine fb ic (aO (aC (λje=>?_) λje=>?_))
 .obtain⟨X0,J⟩:∃Y,(iI s)[(a:Int).toNat]?=some Y:=⟨_,kE (by rw[eV];omega)⟩;refine jH ic bL J ⟨λW w'=>W=.bool (tV X0)/\E=w',nu (aC (λ_=>⟨vb (by unfold tV;first|exact(ei bL).symm|exact ew.2 bL),rfl⟩) λ_=>nu (aC (λ_=>⟨vb (by unfold tV;first|exact(ei bL).symm|exact ew.2 bL),rfl⟩) λ_=>nu (aC (λ_=>⟨vb (by unfold tV;first|exact(ei bL).symm|exact ew.2 bL),rfl⟩) λ_=>nu ⟨vb (by unfold tV;first|exact(ei bL).symm|exact ew.2 bL),rfl⟩))),?_⟩
  rintro _ _ ⟨rfl,V⟩ _;subst V;refine aX (λM=>?_) (λM=>aS af4 u (C254 s (hZ #[47,47]) (a:Int) _ hz cZ bL) λ_ he u=>aX (λlO=>?_) λlO=>?_)
  .refine aJ bL ?_;have Xw:=qE J;exact⟨k,bL,a+1,rfl,bL,CH I J M,u⟩
  .refine⟨λG x E=>∃j:Nat,x=hH (j:Int)/\G=s.size-j/\a<=j/\j<=s.size/\vQ xj s a=vQ xj s j/\St w aY [] E,⟨_,a,rfl,rfl,o5 _,ha,rfl,u⟩,?_⟩;rintro G _ w4 ⟨j,rfl,rfl,haj,hj,iS,u⟩ _;refine⟨λW w'=>W=.bool (match (iI s)[j]? with|some c=>xj c|none=>false)/\w4=w',fb ic (aO (aC (λkS=>?_) λkS=>⟨vb (by first|(rw[show(iI s)[j]?=some xc from vh];unfold xj;exact ew.2 bL)|(rw[mC (by rw[eV];omega)])),rfl⟩)),?_⟩
   .obtain⟨xc,vh⟩:∃Y,(iI s)[(j:Int).toNat]?=some Y:=⟨_,kE (by rw[eV];omega)⟩;exact jH ic bL vh (Xa ⟨vb (by first|(rw[show(iI s)[j]?=some xc from vh];unfold xj;exact ew.2 bL)|(rw[mC (by rw[eV];omega)])),rfl⟩)
   rintro _ _ ⟨rfl,V⟩ _;subst V;refine aX (λB=>?_) (λB=>?_)
   .refine aJ bL ?_
    have O:∃c,(iI s)[j]?=some c/\xj c=true:=by
     cases hc:(iI s)[j]? with
     | none=>rw[hc]at B;cases B
     | some c=>rw[hc]at B;exact⟨c,rfl,B⟩
    obtain⟨cj,C2,UR⟩:=O;have Co:=qE C2;exact⟨_,bL,j+1,rfl,rfl,bL,bL,iS.trans (Fo C2 UR),u⟩
   have U:vQ xj s j=j:=by
    by_cases hjs:j<s.size
    .obtain⟨cj,O⟩:∃c,(iI s)[j]?=some c:=⟨_,kE (by rw[eV];exact hjs)⟩;rw[O]at B;exact Fp O B
    .exact JD bL
   have Rk:=Hz I J M lO;rw[iS,U]at Rk;exact⟨k,bL,j,rfl,hj,Rk,u⟩
  have Z:=Nb I J M (by exact_mod_cast lO);subst Z;exact⟨rfl,u.aF⟩
 have Z:=UQ I bL;subst Z;exact⟨rfl,u.aF⟩
def C208(s:ByteArray)(i:Nat)(c:UInt8)(w:World)(hz:s.size<=1000000)(hc:(iI s)[i]?=some c):CR 208 [.string s,hH (i:Int)] w (λv w'=>v=hH (qt s i c)/\Ext w w'):=by
 have hi:=qE hc;have u:=St.start w;refine pJ Tryz.func208 (pl:=ave) ?_;refine aW C1 u ix rfl rfl (dM rfl) (λO I u=>?_);refine⟨λE x I=>∃k:Nat,x=hH (k:Int)/\E=C1.length-k/\k<=C1.length/\(∀y∈C1.take k,B7 s i y=false)/\St w aY [bF O C1] I,⟨_,0,rfl,rfl,kO _,ea,u⟩,?_⟩;rintro E _ _ ⟨k,rfl,rfl,hk,G,u⟩ _;refine aH ix u.dQ ?_;have OD:C1.length=5:=rfl;refine aO (aC (λwD=>?_) λwD=>?_)
 .obtain⟨Su,J⟩:=gx C1 (i:=(k:Int).toNat) bL;exact dJ u ix bL bL (λ_ Mg=>fV u gn Mg J (aS af4 u (C254 s Su (i:Int) _ hz (aeu _ (j0 J)) bL) λ_ _ u=>aX (λV=>⟨ez (mn .i64) (by unfold qt;rw[ee (gZ J V)]),u.drop.aF⟩) λV=>aJ bL ⟨_,bL,k+1,rfl,rfl,bL,dS G J V,u⟩))
 have u:=u.drop;refine⟨λE x I=>∃j:Nat,x=hH (j:Int)/\E=(hZ #[40,41,123,125,59,44,61,60,33,43,45,42,47,37]).size-j/\j<=(hZ #[40,41,123,125,59,44,61,60,33,43,45,42,47,37]).size/\(∀y∈(iI (hZ #[40,41,123,125,59,44,61,60,33,43,45,42,47,37])).take j,decide ((y.toNat:Int)=c.toNat)=false)/\St w aY [] I,⟨_,0,rfl,rfl,kO _,ea,u⟩,?_⟩;rintro E _ _ ⟨j,rfl,rfl,hj,Z,u⟩ _;refine fb ic ?_;have I4:(hZ #[40,41,123,125,59,44,61,60,33,43,45,42,47,37]).size=14:=rfl;refine aO (aC (λyy=>?_) λyy=>?_)
 .obtain⟨Y,W⟩:∃U,(iI (hZ #[40,41,123,125,59,44,61,60,33,43,45,42,47,37]))[(j:Int).toNat]?=some U:=⟨_,kE (by rw[eV];omega)⟩;refine jH ic bL W ?_;obtain⟨uE,oQ⟩:∃U,(iI s)[(i:Int).toNat]?=some U:=⟨_,kE (by rw[eV];omega)⟩;refine jH ic bL oQ ?_;obtain rfl:=n3.inj (oQ.symm.trans hc);refine nu (aC (λM=>?_) λM=>aJ bL (have u:=u.drew;⟨_,bL,j+1,rfl,rfl,bL,dS Z W (ej M),u⟩));have u:=u.drew;have B:C1.any (B7 s i)=false:=iq (by rw[kp bL]at G;exact G)
  exact⟨ez (mn .i64) (by unfold qt;rw[eb (by rw[B];simp),ee (gZ W (ei M))]),u.aF⟩
 have B:C1.any (B7 s i)=false:=iq (by rw[kp bL]at G;exact G);have hn3:=iq (g:=λx:UInt8=>decide ((x.toNat:Int)=c.toNat)) (by rw[kp (by rw[eV];omega)]at Z;exact Z);exact⟨ez (mn .i64) (by unfold qt;rw[eb (by rw[B];simp),eb (by rw[hn3];simp)]),u.aF⟩
def C209(lv:Value)(l:List bQ)(i:Int)(t:ByteArray)(w:World)(E:dz (λ_=>True) w lv l)(hn:l.length<=1000000):CR 209 [lv,hH i,.string t] w (λv w'=>v=.bool (tz l i t)/\Ext w w'):=by
 have B:=St.start w;refine eU Tryz.func209 ?_;refine⟨λM w'=>M=.bool (tz l i t)/\w=w',cR (aC (λfN=>aH fH (E.ext B.aF) (aO (aC (λwD=>?_) λwD=>⟨vb (by unfold tz;first|(rw[u];grind)|(rw[ej bL];rfl)|(rw[mC bL];simp)),rfl⟩))) λfN=>⟨vb (by unfold tz;first|(rw[u];grind)|(rw[ej bL];rfl)|(rw[mC bL];simp)),rfl⟩),?_⟩
 .obtain⟨G,u⟩:=gx l (i:=(i).toNat) bL;refine aM fH E bL u (λ_ O=>bW G.text ni O rfl rfl λ_ V=>aE gn (V.ext B.aF) (iG (aC (λik=>?_) λik=>⟨vb (by unfold tz;first|(rw[u];grind)|(rw[ej bL];rfl)|(rw[mC bL];simp)),rfl⟩)));refine aM fH E bL u (λ_ rV=>?_);exact bW G.kind lq rV rfl rfl (λ_ I=>aE bO (I.ext B.aF) (bT (aC (λqS=>aM fH E bL u λ_ Y=>bW G.kind lq Y rfl rfl λ_ Es=>aE bO (Es.ext B.aF) (cR (aC (λZ=>aM fH E bL u λ_ U=>bW G.kind lq U rfl rfl λ_ W=>aE bO (W.ext B.aF) (ga ⟨vb (by unfold tz;first|(rw[u];grind)|(rw[ej bL];rfl)|(rw[mC bL];simp)),rfl⟩)) λZ=>⟨vb (by unfold tz;first|(rw[u];grind)|(rw[ej bL];rfl)|(rw[mC bL];simp)),rfl⟩))) λqS=>⟨vb (by unfold tz;first|(rw[u];grind)|(rw[ej bL];rfl)|(rw[mC bL];simp)),rfl⟩)))
 rintro _ _ ⟨rfl,J⟩ _;subst J;exact⟨rfl,B.aF⟩
def C214(lv:Value)(l:List bQ)(i:Int)(w:World)(B:dz (λ_=>True) w lv l)(hn:l.length<=1000000)(r8:∀x∈l,0<=x.at_/\x.at_<=1000000/\x.text.size<=1000000):CR 214 [lv,hH i] w (λv w'=>v=hH (m6 l i)/\Ext w w'):=by
 have u:=St.start w;refine pJ Tryz.func214 (pl:=avh) ?_;refine⟨λZ w'=>Z=.bool (decide (0<=i/\i<l.length))/\w=w',cR (aC (λ_=>aH fH (B.ext u.aF) (aO ⟨xB bL,rfl⟩)) λ_=>⟨Wf bL,rfl⟩),?_⟩;rintro _ _ ⟨rfl,V⟩ _;subst V;refine aC (λU=>?_) (λU=>aH fH (B.ext u.aF) (aG (aC (λmQ=>?_) λmQ=>?_)))
 .obtain⟨El,M⟩:=gx l (i:=(i).toNat) bL;exact aM fH B bL M (λ_ W=>bW El.at_ lr W rfl rfl λ_ Az=>aE bO (Az.ext u.aF) ⟨ez (mn .i64) (by unfold m6;rw[ee bL,M]),u.aF⟩)
 .have J:l=[]:=qa.1 bL;subst J;exact⟨ez (mn .i64) (by unfold m6;split<;>simp_all),u.aF⟩
 refine aH fH (B.ext u.aF) (fk bL ?_);obtain⟨G,E⟩:=gx l (i:=((l.length:Int)-1).toNat) bL;refine aM fH B bL E (λ_ Mh=>bW G.at_ lr Mh rfl rfl λ_ wF=>have u:=u.drew;aE bO (wF.ext u.aF) (aH fH (B.ext u.aF) (fk bL (aM fH B bL E λ_ Y=>bW G.text ni Y rfl rfl λ_ O=>aE gn (O.ext u.aF) (fb ic ?_)))));have hax:=r8 _ (j0 E);refine aJ bL ?_;have I:l.getLast? = some G:=by rw[List.getLast?_eq_getElem?,<- E];congr 1;omega
 have ey:(if 0<=i then l[i.toNat]? else none)=none:=by split;exact mC bL;rfl
 exact⟨ez (mn .i64) (by unfold m6;rw[ey,I]),u.aF⟩
def numOf(s:ByteArray)(a k:Nat):Int:=(((iI s).drop a).take (k-a)).foldl (λn c=>if n<=4294967296 then 10*n+((c.toNat:Int)-48)else n) 0
theorem S0(s:ByteArray)(a:Nat):numOf s a a=0:=by unfold numOf;grind
theorem zB{s:ByteArray}{a k:Nat}{c:UInt8}(u:a<=k)(h:(iI s)[k]?=some c):numOf s a (k+1)=if numOf s a k<=4294967296 then 10*numOf s a k+((c.toNat:Int)-48)else numOf s a k:=by
 unfold numOf
 rw[show k+1-a=(k-a)+1 from bL,tK,H5,show a+(k-a)=k from bL,h,IU,CK]
 rfl
theorem aev{s:ByteArray}{a:Nat}:∀{k:Nat},a<=k->k<=s.size->(∀j c,a<=j->j<k->(iI s)[j]?=some c->48<=(c.toNat:Int)/\(c.toNat:Int)<=57)->0<=numOf s a k/\numOf s a k<=42949672969:=by
 intro k
 induction k with
 | zero=>
  grind[iI,numOf]
 | succ k u=>
  intro E B hd
  by_cases e:a=k+1
  .subst e;rw[S0];omega
  .have:=u bL bL λj c h1 h2=>hd j c h1 bL
   obtain⟨c,hc⟩:∃c,(iI s)[k]?=some c:=⟨_,kE (by rw[eV];omega)⟩
   have h2:=hd k c bL bL hc
   rw[zB bL hc]
   omega
def mz(s:ByteArray):Nat->Nat->List bQ->Option (List bQ×Int×Int)
 | 0,_,_=>none
 | n+1,a,out=>match (iI s)[a]? with
  | none=>some (out,0,0)
  | some c=>
   if gw c.toNat=true then(if 16<vQ sB s a-a then some ([],2,(a:Int))else(kW s (s.size+1) (vQ sB s a)).bind λu=>mz s n u (out++[⟨1,s.extract a (vQ sB s a),0,a⟩]))
   else if j6 c.toNat=true then(if 4294967296<numOf s a (vQ vR s a)then some ([],4,(a:Int))else(kW s (s.size+1) (vQ vR s a)).bind λu=>mz s n u (out++[⟨2,s.extract a (vQ vR s a),numOf s a (vQ vR s a),a⟩]))
   else if qt s a c=0 then some ([],3,(a:Int))else(kW s (s.size+1) (a+(qt s a c).toNat)).bind λu=>mz s n u (out++[⟨3,s.extract a (a+(qt s a c).toNat),0,a⟩])
def vG(s:ByteArray):Option (List bQ×Int×Int):=if 4000<s.size then some ([],2,4000)else(kW s (s.size+1) 0).bind λa=>mz s (s.size+2) a []
theorem Qn{s:ByteArray}{n a:Nat}{out:List bQ}{r:List bQ×Int×Int}(h:mz s n a out=some r):∃k,n=k+1:=by
 cases n with
 | zero=>cases h
 | succ k=>grind
def xX(s:ByteArray)(k a:Nat)(out:List bQ)(R:List bQ×Int×Int)(B:Int)(e:Nat)(n:Int):Prop:=a<e/\e<=s.size/\∃u,kW s (s.size+1) e=some u/\mz s k u (out++[⟨B,s.extract a e,n,a⟩])=some R
section
variable {s:ByteArray}{k a:Nat}{c:UInt8}{out:List bQ}{R:List bQ×Int×Int}
theorem US(h:mz s (k+1) a out=some R)(u:s.size<=a):R=(out,0,0):=by
 unfold mz at h;rw[mC (by rw[eV];exact u)]at h;grind
theorem Gp(h:mz s (k+1) a out=some R)(hc:(iI s)[a]?=some c)(u:gw c.toNat=true)(hb:16<vQ sB s a-a):R=([],2,(a:Int)):=by
 unfold mz at h;grind
theorem B8{e:Nat}{B n:Int}(h:((kW s (s.size+1) e).bind λu=>mz s k u (out++[⟨B,s.extract a e,n,a⟩]))=some R)(h1:a<e)(h2:e<=s.size):xX s k a out R B e n:=by
 cases hp:kW s (s.size+1) e with
 | none=>grind
 | some u=>grind[xX]
theorem UT(h:mz s (k+1) a out=some R)(hc:(iI s)[a]?=some c)(B:gw c.toNat=true)(hb:¬ 16<vQ sB s a-a)(u:a<vQ sB s a):xX s k a out R 1 (vQ sB s a) 0:=by
 unfold mz at h;rw[hc]at h;dsimp only at h;rw[ee B,eb hb]at h
 have:=qE hc;have h2:=Ql (s:=s) (a:=a) sB
 exact B8 h u bL
theorem JE(h:mz s (k+1) a out=some R)(hc:(iI s)[a]?=some c)(u:gw c.toNat=false)(hd:j6 c.toNat=true)(hb:4294967296<numOf s a (vQ vR s a)):R=([],4,(a:Int)):=by
 unfold mz at h;grind
theorem ZQ(h:mz s (k+1) a out=some R)(hc:(iI s)[a]?=some c)(B:gw c.toNat=false)(hd:j6 c.toNat=true)(hb:¬ 4294967296<numOf s a (vQ vR s a))(u:a<vQ vR s a):xX s k a out R 2 (vQ vR s a) (numOf s a (vQ vR s a)):=by
 unfold mz at h;rw[hc]at h;dsimp only at h;rw[eb cH,ee hd,eb hb]at h
 have:=qE hc;have h2:=Ql (s:=s) (a:=a) vR
 exact B8 h u bL
theorem UW(h:mz s (k+1) a out=some R)(hc:(iI s)[a]?=some c)(u:gw c.toNat=false)(hd:j6 c.toNat=false)(hb:qt s a c=0):R=([],3,(a:Int)):=by
 unfold mz at h;grind
theorem ZR(s:ByteArray)(a:Nat)(c:UInt8):qt s a c=0\/qt s a c=1\/qt s a c=2:=by
 grind[qt]
theorem S1{s:ByteArray}{a:Nat}{c:UInt8}(h:(iI s)[a]?=some c):(a:Int)+qt s a c<=s.size:=by
 have u:=qE h
 unfold qt
 split
 .rename_i h2
  rw[u4]at h2
  obtain⟨t,ht,hb⟩:=h2
  have:t.size=2:=by
   have B:∀t∈C1,t.size=2:=cZ
   grind
  unfold B7 at hb
  grind
 omega
theorem UX(h:mz s (k+1) a out=some R)(hc:(iI s)[a]?=some c)(u:gw c.toNat=false)(hd:j6 c.toNat=false)(hb:¬ qt s a c=0):xX s k a out R 3 (a+(qt s a c).toNat) 0:=by
 unfold mz at h;rw[hc]at h;dsimp only at h;rw[eb cH,eb cH,eb hb]at h
 have h1:=ZR s a c;have h2:=S1 hc
 exact B8 h bL bL
end
theorem C130(s:ByteArray)(R:List bQ×Int×Int)(w:World)(Ua:s.size<=1000000)(hr:vG s=some R):CR 130 [.string s] w (λv w'=>∃o,v=.tuple #[o,hH R.2.1,hH R.2.2]/\kZ (bF o R.1) w w'):=by
 have u:=St.start w;refine ab7 _ _ _ ?_;unfold S130;refine fb ic (cP (aC (λjo=>?_) λjo=>?_))
 .have W:([],2,4000)=R:=by unfold vG at hr;rw[ee bL]at hr;exact n3.inj hr
  subst W;exact⟨_,rfl,u.eW.fresh⟩
 have h4:s.size<=4000:=bL
 obtain⟨a0,ha0,Oe⟩:∃a0,kW s (s.size+1) 0=some a0/\mz s (s.size+2) a0 []=some R:=by
  unfold vG at hr;rw[eb bL]at hr;cases hq:kW s (s.size+1) 0 with
  | none=>rw[hq]at hr;cases hr
  | some a0=>rw[hq]at hr;exact⟨a0,rfl,hr⟩
 have ayo:=A0 ha0 bL;refine aW ([]:List bQ) u fH rfl rfl (dM rfl) (λs_x12 _ u=>aS afY u (C205 s 0 (s.size+1) a0 _ bL bL ha0) λ_ he u=>?_);refine⟨λmm o x w'=>∃(a:Nat) (out:List bQ),x=hH (a:Int)/\a<=s.size/\out.length<=a/\mz s mm a out=some R/\St w aY [bF o out] w',⟨_,a0,[],rfl,ayo.2,kO _,Oe,u⟩,?_⟩;rintro mm ub _ _ ⟨a,out,rfl,ha,I4,hp,u⟩ _;obtain⟨k,rfl⟩:=Qn hp;refine fb ic (aO (aC (λlz=>pop (WX _) (aQ u acC λUY _ u=>aK (x:=(⟨0,(hZ #[]),0,(a:Int)⟩:bQ)) u agc rfl rfl λ_ u=>⟨λto w'=>∃(kd:Int) (e:Nat) (n:Int),to=hH (e:Int)/\xX s k a out R kd e n/\St w aY [bZ UY (ia (⟨kd,hZ #[],n,(a:Int)⟩:bQ)),bF ub out] w',?_,?_⟩)) λlz=>?_))
 .obtain⟨iH,mc⟩:∃xx,(iI s)[(a:Int).toNat]?=some xx:=⟨_,kE (by rw[eV];omega)⟩;refine jH ic bL mc ?_;have B:(iI s)[a]?=some iH:=mc;refine aS Rt u (C206 _ _) (λ_ he u=>aX (λjq=>?_) λjq=>?_)
  .have E:=jq;refine aA lq (aV u bO (dM rfl) (rfl) λ_ u=>?_);have u:=u.enc (cs':=ia ({ (⟨0,(hZ #[]),0,(a:Int)⟩:bQ)with kind:=1}:bQ)) rfl;have u:=u.p1.p1;refine⟨λmm x w'=>∃j:Nat,x=hH (j:Int)/\mm=s.size-j/\a<=j/\j<=s.size/\vQ sB s a=vQ sB s j/\St w aY [bZ UY (ia (⟨1,hZ #[],0,(a:Int)⟩:bQ)),bF ub out] w',⟨_,a,rfl,rfl,o5 _,ha,rfl,u⟩,?_⟩;rintro mm _ _ ⟨j,rfl,rfl,Z,hj,I,u⟩ _;refine⟨λjv w'=>jv=.bool (match (iI s)[j]? with|some c=>sB c|none=>false)/\St w aY [bZ UY (ia (⟨1,hZ #[],0,(a:Int)⟩:bQ)),bF ub out] w',fb ic (aO (aC (λqS=>?_) λqS=>⟨vb (by first|(rw[show(iI s)[j]?=some J from oQ];show _=(gw J.toNat||j6 J.toNat);rw[kS];rfl)|(rw[mC (by rw[eV];omega)])),u⟩)),?_⟩
   .obtain⟨J,oQ⟩:∃xx,(iI s)[(j:Int).toNat]?=some xx:=⟨_,kE (by rw[eV];omega)⟩;refine jH ic bL oQ ?_;have hcj0:(iI s)[j]?=some J:=oQ;exact aS Rt u (C206 _ _) (λ_ he u=>aX (λkS=>⟨vb (by first|(rw[show(iI s)[j]?=some J from oQ];show _=(gw J.toNat||j6 J.toNat);rw[kS];rfl)|(rw[mC (by rw[eV];omega)])),u⟩) λkS=>jH ic bL oQ (aS Ru u (C207 _ _) λ_ he u=>⟨vb (by first|(rw[show(iI s)[j]?=some J from oQ];show _=(gw J.toNat||j6 J.toNat);rw[kS];rfl)|(rw[mC (by rw[eV];omega)])),u⟩))
   rintro _ _ ⟨rfl,u⟩ _;refine aX (λY=>?_) (λY=>?_)
   .refine aJ bL ?_
    have O:∃c,(iI s)[j]?=some c/\sB c=true:=by
     cases hc:(iI s)[j]? with
     | none=>rw[hc]at Y;cases Y
     | some c=>rw[hc]at Y;exact⟨c,rfl,Y⟩
    obtain⟨cj,V,UR⟩:=O;have Co:=qE V;exact⟨_,bL,j+1,rfl,rfl,bL,bL,I.trans (Fo V UR),u⟩
   have U:vQ sB s j=j:=by
    by_cases hjs:j<s.size
    .obtain⟨cj,O⟩:∃c,(iI s)[j]?=some c:=⟨_,kE (by rw[eV];exact hjs)⟩;rw[O]at Y;exact Fp O Y
    .exact JD bL
   refine fk bL (cP (aC (λwP=>?_) λwP=>?_))
   .have u:=u.drop.drop;have W:=Gp hp B E (by rw[I,U];omega);subst W;exact⟨_,rfl,u.eW.fresh⟩
   have u:=u.p1.p1
   have hgt:a<j:=by
    rcases O7 a j with h|h
    .exact h
    .obtain rfl:j=a:=bL
     rw[B]at Y;have h9:sB iH=false:=Y;unfold sB at h9;rw[E]at h9;cases h9
   have M:=UT hp B E (by rw[I,U];omega) (by rw[I,U];exact hgt);rw[I,U]at M;exact⟨1,j,0,rfl,M,u⟩
  have E:=jq;refine jH ic bL mc (aS Ru u (C207 _ _) λ_ he u=>aX (λCx=>?_) λCx=>?_)
  .have G:=Cx;refine aA lq (aV u bO (dM rfl) (rfl) λ_ u=>?_);have u:=u.enc (cs':=ia ({ (⟨0,(hZ #[]),0,(a:Int)⟩:bQ)with kind:=2}:bQ)) rfl;have u:=u.p1.p1;refine⟨λmm x w'=>∃j:Nat,x=hH (j:Int)/\mm=s.size-j/\a<=j/\j<=s.size/\vQ vR s a=vQ vR s j/\(∀(i:Nat) (c:UInt8),a<=i->i<j->(iI s)[i]?=some c->48<=(c.toNat:Int)/\(c.toNat:Int)<=57)/\St w aY [bZ UY (ia (⟨2,hZ #[],(numOf s a j),(a:Int)⟩:bQ)),bF ub out] w',⟨_,a,rfl,rfl,o5 _,ha,rfl,λ_ _ h1 _=>absurd h1 bL,by rw[S0];exact u⟩,?_⟩;rintro mm _ _ ⟨j,rfl,rfl,Z,hj,I,hdg,u⟩ _
   refine⟨λjv w'=>jv=.bool (match (iI s)[j]? with|some c=>vR c|none=>false)/\St w aY [bZ UY (ia (⟨2,hZ #[],(numOf s a j),(a:Int)⟩:bQ)),bF ub out] w',fb ic (aO (aC (λG3=>?_) λG3=>⟨vb (by first|(rw[show(iI s)[j]?=some ahl from Qo];rfl)|(rw[mC (by rw[eV];omega)])),u⟩)),?_⟩
   .obtain⟨ahl,Qo⟩:∃xx,(iI s)[(j:Int).toNat]?=some xx:=⟨_,kE (by rw[eV];omega)⟩;exact jH ic bL Qo (aS Ru u (C207 _ _) λ_ he u=>⟨vb (by first|(rw[show(iI s)[j]?=some ahl from Qo];rfl)|(rw[mC (by rw[eV];omega)])),u⟩)
   rintro _ _ ⟨rfl,u⟩ _;refine aX (λuC=>?_) (λuC=>?_)
   .have O:∃c,(iI s)[j]?=some c/\vR c=true:=by
     cases hc:(iI s)[j]? with
     | none=>rw[hc]at uC;cases uC
     | some c=>rw[hc]at uC;exact⟨c,rfl,uC⟩
    obtain⟨cj,V,UR⟩:=O;have Co:=qE V;have hcd:=UR;unfold vR j6 at hcd;rw[decide_eq_true_eq]at hcd;have ZB:=aev Z bL hdg;refine⟨λw'=>St w aY [bZ UY (ia (⟨2,hZ #[],(numOf s a (j+1)),(a:Int)⟩:bQ)),bF ub out] w',aA rM (aB (v:=hH (numOf s a j)) bO u.hb rfl (ga (aC (λEj=>?_) λEj=>?_))),?_⟩
    .refine aA rM (have u:=u.drew;aB (v:=hH (numOf s a j)) bO u.hb rfl (Da bL ?_));obtain⟨arD,ZT⟩:∃xx,(iI s)[(j:Int).toNat]?=some xx:=⟨_,kE (by rw[eV];omega)⟩;refine jH ic bL ZT ?_;obtain rfl:=n3.inj (ZT.symm.trans (show(iI s)[(j:Int).toNat]?=some cj from V));refine Zs bL (UG avJ KL bL (aJ bL (aA rM (aV u bO (dM rfl) (rfl) λ_ u=>?_))));have u:=u.enc (cs':=ia ({ (⟨2,hZ #[],(numOf s a j),(a:Int)⟩:bQ)with n:=((10*(numOf s a j))+((arD.toNat:Int)-48))}:bQ)) rfl
     have u:=u.p1.p1;rw[zB Z V,ee Ej];exact u
    .have u:=u.p1.p1;rw[zB Z V,eb Ej];exact u
    intro _ u _;refine aJ bL ?_
    exact⟨_,bL,j+1,rfl,rfl,bL,bL,I.trans (Fo V UR),λi c h1 h2 h3=>by
     by_cases e:i=j
     .subst e;obtain rfl:=n3.inj (h3.symm.trans V);omega
     .exact hdg i c h1 bL h3,u⟩
   have U:vQ vR s j=j:=by
    by_cases hjs:j<s.size
    .obtain⟨cj,O⟩:∃c,(iI s)[j]?=some c:=⟨_,kE (by rw[eV];exact hjs)⟩;rw[O]at uC;exact Fp O uC
    .exact JD bL
   refine aA rM (aB (v:=hH (numOf s a j)) bO u.hb rfl (cP (aC (λagz=>?_) λagz=>?_)))
   .have u:=u.drop.drop;have W:=JE hp B E G (by rw[I,U];omega);subst W;exact⟨_,rfl,u.eW.fresh⟩
   have u:=u.p1.p1
   have hgt:a<j:=by
    rcases O7 a j with h|h
    .exact h
    .obtain rfl:j=a:=bL
     rw[B]at uC;have h9:vR iH=false:=uC;unfold vR at h9;rw[G]at h9;cases h9
   have M:=ZQ hp B E G (by rw[I,U];omega) (by rw[I,U];exact hgt);rw[I,U]at M;exact⟨2,j,_,rfl,M,u⟩
  have G:=Cx;have hsb:=ZR s a iH;have hsi:=S1 B;refine aA lq (aV u bO (dM rfl) (rfl) λ_ u=>have u:=u.enc (cs':=ia ({ (⟨0,(hZ #[]),0,(a:Int)⟩:bQ)with kind:=3}:bQ)) rfl;aS anf u (C208 s a iH _ Ua B) λ_ he u=>aJ bL (aG (aC (λarE=>?_) λarE=>?_)))
  .have u:=u.drop.drop;have W:=UW hp B E G bL;subst W;exact⟨_,rfl,u.eW.fresh⟩
  have u:=u.p1.p1;have M:=UX hp B E G bL;exact⟨3,a+(qt s a iH).toNat,0,by congr 1;omega,M,u⟩
 .rintro _ _ ⟨kd,e,n,rfl,M,u⟩ _;have ayp:=M;obtain⟨h1e0,h2e0,_⟩:=ayp;refine Lk ic bL bL bL (aA ni (aV u gn (dM rfl) (rfl) λ_ u=>have u:=u.enc (cs':=ia ({ (⟨kd,hZ #[],n,(a:Int)⟩:bQ)with text:=(s.extract (a:Int).toNat (e:Int).toNat)}:bQ)) rfl;aE agc u.At (aW ([(⟨kd,s.extract (a:Int).toNat (e:Int).toNat,n,(a:Int)⟩:bQ)]) u fH rfl rfl (dM rfl) λaj5 _ u=>?_)));have aew:=u.dQ;refine bJ u.p2 fH aew (by simp;omega) cZ (λaj6 _ u=>?_);have u:=u.p1.drop;obtain⟨h1e,h2e,a2,ha2,Rk⟩:=M
  have ayq:=A0 ha2 h2e;exact aS afY u (C205 s e (s.size+1) a2 _ bL bL ha2) (λ_ _ u=>have u:=u.p1.drop;⟨k,bL,a2,_,rfl,ayq.2,by simp;omega,Rk,u⟩)
 have W:=US hp bL;subst W;exact⟨_,rfl,u.fresh⟩
structure fI where
 l:(List bY)
 to:Int
 e:Int
 at_:Int
deriving DecidableEq
structure dT where
 l:SV
 to:Int
 e:Int
 at_:Int
instance:Flat dT where
 agg:=true
 sz:=4
 enc e:=[.slice e.l.a e.l.n e.l.cap,hH e.to,hH e.e,hH e.at_]
 val e:=.agg [.slice e.l.a e.l.n e.l.cap,hH e.to,hH e.e,hH e.at_].toArray
 pos:=cZ
 len _:=rfl
 one a v h:=by grind[vK]
 ng _ _:=rfl
 nh h:=by cases h
instance:Deep fI dT where
 dr w s x:=∃(u:SV),s=(⟨u,x.to,x.e,x.at_⟩:dT)/\DL w (hM u) x.l
 ext h e:=by
  obtain⟨B,rfl,E⟩:=h
  exact⟨B,rfl,E.ext e⟩
def kY{w:World}{u:dT}{x:fI}(h:mL w u x):DL w (hM u.l) x.l:=by obtain⟨_,rfl,h⟩:=h;exact h
def qF(n:Int):List Int:=if n=0 then [15]else if n=1 then [14]else if n=2 then [10,11,12,13]else if n=3 then [5,6]else [7,8,9]
def Dy:List ByteArray:=[⟨#[]⟩,⟨#[]⟩,⟨#[]⟩,⟨#[45]⟩,⟨#[33]⟩,⟨#[43]⟩,⟨#[45]⟩,⟨#[42]⟩,⟨#[47]⟩,⟨#[37]⟩,⟨#[61,61]⟩,⟨#[33,61]⟩,⟨#[60]⟩,⟨#[60,61]⟩,⟨#[38,38]⟩,⟨#[124,124]⟩]
def Nc(k:Int):ByteArray:=(Dy[k.toNat]?).getD ⟨#[]⟩
def gl(l:List bQ)(i e:Int):fI:=⟨[],0,if (l.length:Int)<=i then 6 else e,m6 l i⟩
abbrev arF(r:fI)(w:World):=sK λv w'=>∃u:dT,v=hM u/\kZ (eH λw=>mL w u r) w w'
def aj7(l:List bQ)(rec:Int->Int->Int->Option fI):Prop:=∀(lv:Value) (i d n:Int) (r:fI) (w:World),dz (λ_=>True) w lv l->rec i d n=some r->0<=i/\i<=l.length->0<=d/\d<=12->0<=n/\n<=5->
 Calls g6 258 [lv,hH i,hH d,hH n].toArray w (arF r w)/\(n=5->Calls g6 294 [lv,hH i,hH d].toArray w (arF r w))
structure iY(l:List bQ):Prop where
 n:l.length<=5000
 at_:∀x∈l,0<=x.at_/\x.at_<=1000000/\x.text.size<=1000000
def UZ(l:List bQ)(i:Int):Bool:=tz l i ⟨#[33]⟩||tz l i ⟨#[45]⟩
def oV(rec:Int->Int->Int->Option fI)(l:List bQ)(i d:Int):Option fI:=
 match (if (l.length:Int)<=i then none else l[i.toNat]?)with
 | none=>some (gl l i 6)
 | some t=>if ((UZ l i||tz l i ⟨#[40]⟩)&&decide (d=12))=true then some (gl l i 7)
  else if UZ l i=true then(rec (i+1) (d+1) 5).bind λx=>if x.l.length<=10000 then some (if x.e≠0 then x else {x with l:=[⟨if t.text=⟨#[45]⟩then 3 else 4,0,⟨#[]⟩,t.at_⟩]++x.l})else none
  else if tz l i ⟨#[40]⟩=true then(rec (i+1) (d+1) 0).bind λx=>some (if x.e≠0 then x else if tz l x.to ⟨#[41]⟩=true then {x with to:=x.to+1}else gl l x.to 5)
  else if t.kind=2 then some ⟨[⟨1,t.n,⟨#[]⟩,t.at_⟩],i+1,0,0⟩
  else if (decide (t.kind=1)&&gJ t.text)=true then some ⟨[⟨2,0,t.text,t.at_⟩],i+1,0,0⟩
  else some (gl l i 5)
def Fq(l:List bQ)(to n:Int)(k:Nat):Int:=((qF n).take k).foldl (λop f=>if tz l to (Nc f)=true then f else op) 0
def JF(l:List bQ)(to n:Int):Int:=Fq l to n (qF n).length
theorem HA{l:List bQ}{to n:Int}{k:Nat}{f:Int}(h:(qF n)[k]?=some f):Fq l to n (k+1)=if tz l to (Nc f)=true then f else Fq l to n k:=by
 unfold Fq;rw[tK,h,IU,CK];rfl
def vH(rec:Int->Int->Int->Option fI)(l:List bQ)(d n:Int):Nat->fI->Option fI
 | 0,_=>none
 | k+1,x=>if x.e≠0 then some x else if JF l x.to n=0 then some x else match (if 0<=x.to then l[x.to.toNat]? else none)with
  | none=>none
  | some t=>match rec (x.to+1) d (n+1)with
   | none=>none
   | some y=>if y.e≠0 then some y else if x.l.length+y.l.length<=10000 then
     (if n=2 then some ⟨[⟨JF l x.to n,0,⟨#[]⟩,t.at_⟩]++x.l++y.l,y.to,0,0⟩else vH rec l d n k ⟨[⟨JF l x.to n,0,⟨#[]⟩,t.at_⟩]++x.l++y.l,y.to,0,0⟩)else none
def HC(l:List bQ):Nat->Int->Int->Int->Option fI
 | 0,_,_,_=>none
 | k+1,i,d,n=>if n=5 then oV (HC l k) l i d else(HC l k i d (n+1)).bind (vH (HC l k) l d n k)
def ZU{n:Int}{k:Nat}{f:Int}(h:(qF n)[k]?=some f):5<=f/\f<=15:=by
 have u:=j0 h
 unfold qF at u
 grind
section
variable {rec:Int->Int->Int->Option fI}{l:List bQ}{i d n:Int}{r x y:fI}{t:bQ}{k:Nat}
theorem Qp(h:oV rec l i d=some r)(u:(l.length:Int)<=i):r=gl l i 6:=by
 unfold oV at h;grind
theorem Nd(h:oV rec l i d=some r)(u:¬ (l.length:Int)<=i)(ht:l[i.toNat]?=some t)(hd:((UZ l i||tz l i ⟨#[40]⟩)&&decide (d=12))=true):r=gl l i 7:=by
 unfold oV at h;grind
theorem U1(h:oV rec l i d=some r)(B:¬ (l.length:Int)<=i)(ht:l[i.toNat]?=some t)(hd:((UZ l i||tz l i ⟨#[40]⟩)&&decide (d=12))=false)(u:UZ l i=true) :
  ∃x,rec (i+1) (d+1) 5=some x/\x.l.length<=10000/\r=if x.e≠0 then x else {x with l:=[⟨if t.text=⟨#[45]⟩then 3 else 4,0,⟨#[]⟩,t.at_⟩]++x.l}:=by
 unfold oV at h;rw[eb B,ht]at h;dsimp only at h;rw[eb cH,ee u]at h
 cases hr:rec (i+1) (d+1) 5 with
 | none=>grind
 | some x=>
  grind
theorem Nf(h:oV rec l i d=some r)(u:¬ (l.length:Int)<=i)(ht:l[i.toNat]?=some t)(hd:((UZ l i||tz l i ⟨#[40]⟩)&&decide (d=12))=false)(E:UZ l i=false)(B:tz l i ⟨#[40]⟩=true) :
  ∃x,rec (i+1) (d+1) 0=some x/\r=if x.e≠0 then x else if tz l x.to ⟨#[41]⟩=true then {x with to:=x.to+1}else gl l x.to 5:=by
 unfold oV at h;rw[eb u,ht]at h;dsimp only at h;rw[eb cH,eb cH,ee B]at h
 cases hr:rec (i+1) (d+1) 0 with
 | none=>grind
 | some x=>grind
theorem Ng(h:oV rec l i d=some r)(B:¬ (l.length:Int)<=i)(ht:l[i.toNat]?=some t)(hd:((UZ l i||tz l i ⟨#[40]⟩)&&decide (d=12))=false)(u:UZ l i=false)(E:tz l i ⟨#[40]⟩=false) :
  r=if t.kind=2 then⟨[⟨1,t.n,⟨#[]⟩,t.at_⟩],i+1,0,0⟩else if (decide (t.kind=1)&&gJ t.text)=true then⟨[⟨2,0,t.text,t.at_⟩],i+1,0,0⟩else gl l i 5:=by
 unfold oV at h;grind
theorem Qq(h:vH rec l d n k x=some r):∃j,k=j+1:=by
 cases k with
 | zero=>cases h
 | succ j=>grind
theorem aex(h:vH rec l d n (k+1) x=some r)(u:x.e≠0):r=x:=by
 unfold vH at h;grind
theorem ZV(h:vH rec l d n (k+1) x=some r)(B:¬ x.e≠0)(u:JF l x.to n=0):r=x:=by
 unfold vH at h;grind
theorem ZW(h:vH rec l d n (k+1) x=some r)(u:¬ x.e≠0)(B:¬ JF l x.to n=0):∃t y,0<=x.to/\l[x.to.toNat]?=some t/\rec (x.to+1) d (n+1)=some y/\(y.e≠0->r=y)/\
  (¬ y.e≠0->x.l.length+y.l.length<=10000/\(n=2->r=⟨[⟨JF l x.to n,0,⟨#[]⟩,t.at_⟩]++x.l++y.l,y.to,0,0⟩)/\(¬ n=2->vH rec l d n k ⟨[⟨JF l x.to n,0,⟨#[]⟩,t.at_⟩]++x.l++y.l,y.to,0,0⟩=some r)):=by
 unfold vH at h;grind
theorem ahm(h:HC l (k+1) i d 5=some r):oV (HC l k) l i d=some r:=by grind[oV,HC]
theorem arG(h:HC l (k+1) i d n=some r)(u:¬ n=5):∃x,HC l k i d (n+1)=some x/\vH (HC l k) l d n k x=some r:=by
 unfold HC at h;rw[eb u]at h
 cases hx:HC l k i d (n+1)with
 | none=>grind
 | some x=>grind
end
def vI(l:List bQ)(i:Int):Option (List bY×Int×Int×Int):=if i<0 then some ([],0,1,0)else(HC l 10000 i 0 0).bind λx=>
 if x.e≠0 then some ([],0,x.e,x.at_)else match yZ x.l,l[i.toNat]? with
  | some t,some k=>if x.l.length<=10000 then(if 12<t.depth then some ([],0,7,k.at_)else if 40<x.l.length then some ([],0,2,k.at_)else some (x.l,x.to,0,0))else none
  | _,_=>none
def Qr(n:Int):(qF n).length<=4:=by
 grind[qF]
def C295(n:Int)(w:World)(hn:0<=n/\n<=4):CR 295 [hH n] w (λv w'=>kZ (bF v (qF n)) w w'):=by
 have u:=St.start w;refine eU Tryz.func295 ?_;refine aW ([15]:List Int) u cQ rfl rfl (dM rfl) (λW _ u=>aW ([14]:List Int) u cQ rfl rfl (dM rfl) λU _ u=>aW ([10,11,12,13]:List Int) u cQ rfl rfl (dM rfl) λOU _ u=>aW ([5,6]:List Int) u cQ rfl rfl (dM rfl) λV _ u=>aW ([7,8,9]:List Int) u cQ rfl rfl (dM rfl) λZ _ u=>?_);obtain⟨J,rfl⟩:=u.p4.fQ;obtain⟨I,rfl⟩:=u.p3.fQ;obtain⟨M,rfl⟩:=u.p2.fQ;obtain⟨G,rfl⟩:=u.p1.fQ;obtain⟨O,rfl⟩:=u.fQ;refine aW ([J,I,M,G,O]) u mO rfl rfl (dM rfl) (λY _ u=>?_)
 have u:=(((((((((((u.acI (α:=Int)).p6).p1).Ea).p5).p1).Ea).p4).p1).Ea).p3).p1;have u:=u.Ea.p2.p1.Ea;obtain rfl|rfl|rfl|rfl|rfl:n=0\/n=1\/n=2\/n=3\/n=4:=bL
 .have B:=u.Ak;exact dJ u.p1 mO cZ ea (λ_ E=>fV u.p1 eP E (show _=some J from rfl) (have u:=u.split;u.fresh))
 .have B:=u.Ak;exact dJ u.p1 mO cZ ea (λ_ E=>fV u.p1 eP E (show _=some I from rfl) (have u:=u.split.drop.split;u.fresh))
 .have B:=u.Ak;exact dJ u.p1 mO cZ ea (λ_ E=>fV u.p1 eP E (show _=some M from rfl) (have u:=u.split.drop.split.drop.split;u.fresh))
 .have B:=u.Ak;exact dJ u.p1 mO cZ ea (λ_ E=>fV u.p1 eP E (show _=some G from rfl) (have u:=u.split.drop.split.drop.split.drop.split;u.fresh))
 have B:=u.Ak;exact dJ u.p1 mO cZ ea (λ_ E=>fV u.p1 eP E (show _=some O from rfl) (have u:=u.split.drop.split.drop.split.drop.split.drop.split;u.fresh))
def C296(k:Int)(w:World)(J:0<=k/\k<=15):CR 296 [hH k] w (λv w'=>v=.string (Nc k)/\Ext w w'):=by
 have u:=St.start w;refine eU Tryz.func296 ?_;refine aW Dy u ix rfl rfl (dM rfl) (λI _ u=>?_);have M:Dy.length=16:=rfl;obtain⟨G,E⟩:=gx Dy (i:=k.toNat) bL;refine dJ u ix bL bL (λ_ B=>fV u gn B E ?_);refine⟨?_,u.drop.aF⟩;unfold Nc;rw[E];rfl
def C320(lv:Value)(l:List bQ)(i e:Int)(w:World)(E:dz (λ_=>True) w lv l)(B:iY l):CR 320 [lv,hH i,hH e] w (λv w'=>∃sh:dT,v=hM sh/\kZ (eH λw=>mL w sh (gl l i e)) w w'):=by
 have U:=B.n;have O:l.length<=1000000:=bL
 have J:=B.at_;have u:=St.start w;refine acq _ _ _ _ _ ?_;unfold S320;refine aQ u te (λV G u=>have u:=u.enc (cs':=ia (⟨cI,0,0,0⟩:dT)) rfl;⟨λM w'=>M=hH (if (l.length:Int)<=i then 6 else e)/\G=w',aH fH (E.ext u.aF) (cR (aC (λ_=>⟨by rw[ee bL],rfl⟩) λ_=>⟨by rw[eb bL],rfl⟩)),?_⟩);rintro _ _ ⟨rfl,I⟩ _;subst I;exact aS GF u (C214 _ l i _ (E.ext u.aF) O J) (λ_ _ u=>pop (OM _ _) (aK (x:=(⟨cI,0,(if (l.length:Int)<=i then 6 else e),(m6 l i)⟩:dT)) u fT rfl rfl λ_ u=>aE fT u.At (have u:=u.gz (Φ:=(λw=>mL w (⟨cI,0,(if (l.length:Int)<=i then 6 else e),(m6 l i)⟩:dT) (⟨[],0,(if (l.length:Int)<=i then 6 else e),(m6 l i)⟩:fI))) (λ_=>⟨_,rfl,DL.nil _⟩);have u:=u.p1.drop;⟨_,rfl,u.fresh⟩)))
def C294(l:List bQ)(rec:Int->Int->Int->Option fI)(lv:Value)(i d:Int)(r:fI)(w:World)(E:dz (λ_=>True) w lv l)(Z:iY l)(HR:aj7 l rec)(h0:0<=i/\i<=l.length)(hd:0<=d/\d<=12)(hr:oV rec l i d=some r):CR 294 [lv,hH i,hH d] w (λv w'=>∃sh:dT,v=hM sh/\kZ (eH λw=>mL w sh r) w w'):=by
 have Dr:=Z.n;have hn:l.length<=1000000:=bL
 have r8:=Z.at_;have u:=St.start w;refine acm _ _ _ _ _ ?_;unfold S294;refine aQ u te (λPX _ u=>have u:=u.enc (cs':=ia (⟨cI,0,0,0⟩:dT)) rfl;aH fH (E.ext u.aF) (cR (aC (λdP=>?_) λdP=>?_)))
 .refine dO RB (C320 _ l i 6 _ (E.ext u.aF) Z) ?_;rintro _ _ ⟨aka,rfl,O⟩;have u:=u.made O;obtain⟨A1,Qs,_⟩:=u.eH;subst Qs;refine aK (x:=(⟨A1,(gl l i 6).to,(gl l i 6).e,(gl l i 6).at_⟩:dT)) u.p1 fT rfl rfl (λ_ u=>aE fT u.At ?_);have I:r=(⟨(gl l i 6).l,(gl l i 6).to,(gl l i 6).e,(gl l i 6).at_⟩:fI):=Qp hr bL;rw[I];have u:=u.p1.dD (Ψ:=(λw=>mL w (⟨A1,(gl l i 6).to,(gl l i 6).e,(gl l i 6).at_⟩:dT) (⟨(gl l i 6).l,(gl l i 6).to,(gl l i 6).e,(gl l i 6).at_⟩:fI))) (λ_ h=>⟨_,rfl,kY h⟩)
  have u:=u.p1.drop;exact⟨_,rfl,u.fresh⟩
 obtain⟨t,ht⟩:=gx l (i:=i.toNat) bL;have hta:=r8 t (j0 ht);refine⟨λV w'=>V=.bool (UZ l i)/\St w aY [bZ PX (ia (⟨cI,0,0,0⟩:dT))] w',aS vu u (C209 _ l i (hZ #[33]) _ (E.ext u.aF) hn) (λ_ _ u=>aX (λik=>⟨vb (by unfold UZ;rw[ik];rfl),u⟩) λik=>aS vu u (C209 _ l i (hZ #[45]) _ (E.ext u.aF) hn) λ_ _ u=>⟨vb (by unfold UZ;rw[ik];rfl),u⟩),?_⟩;rintro _ _ ⟨rfl,u⟩ _;refine aS vu u (C209 _ l i (hZ #[40]) _ (E.ext u.aF) hn) (λ_ he u=>⟨λV w'=>V=.bool ((UZ l i||tz l i (hZ #[40]))&&decide (d=12))/\St w aY [bZ PX (ia (⟨cI,0,0,0⟩:dT))] w',aX (λG=>aG ⟨vb (by first|(rw[G];simp;done)|(rw[G,M];simp;done)|(rw[G];rfl)|(rw[G,M];rfl)),u⟩) (λG=>aX (λM=>aG ⟨vb (by first|(rw[G];simp;done)|(rw[G,M];simp;done)|(rw[G];rfl)|(rw[G,M];rfl)),u⟩) λM=>⟨vb (by first|(rw[G];simp;done)|(rw[G,M];simp;done)|(rw[G];rfl)|(rw[G,M];rfl)),u⟩),?_⟩)
 rintro _ _ ⟨rfl,u⟩ _;refine aX (λU=>?_) (λU=>aX (λG=>?_) λG=>aX (λM=>?_) λM=>?_)
 .refine dO RB (C320 _ l i 7 _ (E.ext u.aF) Z) ?_;rintro _ _ ⟨ays,rfl,O⟩;have u:=u.made O;obtain⟨S6,akb,_⟩:=u.eH;subst akb;refine aK (x:=(⟨S6,(gl l i 7).to,(gl l i 7).e,(gl l i 7).at_⟩:dT)) u.p1 fT rfl rfl (λ_ u=>aE fT u.At ?_);have I:r=(⟨(gl l i 7).l,(gl l i 7).to,(gl l i 7).e,(gl l i 7).at_⟩:fI):=Nd hr bL ht U;rw[I];have u:=u.p1.dD (Ψ:=(λw=>mL w (⟨S6,(gl l i 7).to,(gl l i 7).e,(gl l i 7).at_⟩:dT) (⟨(gl l i 7).l,(gl l i 7).to,(gl l i 7).e,(gl l i 7).at_⟩:fI))) (λ_ h=>⟨_,rfl,kY h⟩)
  have u:=u.p1.drop;exact⟨_,rfl,u.fresh⟩
 .refine aJ bL (aJ bL ?_);have ayt:¬ d=12:=λh=>by rw[G,ei h]at U;cases U
  obtain⟨B,W,hxl,J⟩:=U1 hr bL ht U G;refine dO af8 ((HR _ (i+1) (d+1) 5 B _ (E.ext u.aF) W bL bL bL).2 rfl) ?_;rintro _ _ ⟨ayu,rfl,O⟩;have u:=u.made O;obtain⟨Dz,akc,_⟩:=u.eH;subst akc;refine aQ u te (λBF _ u=>have u:=u.enc (cs':=ia (⟨cI,0,0,0⟩:dT)) rfl;aK (x:=(⟨Dz,B.to,B.e,B.at_⟩:dT)) u fT rfl rfl λw13 u=>aA uj (aB (v:=hH B.e) jx u.hb rfl (bT (aC (λwC=>?_) λwC=>⟨λV w'=>V=hH (if t.text=hZ #[45]then 3 else 4)/\w13=w',aM fH (E.ext u.aF) bL ht (λ_ Ay=>bW t.text ni Ay rfl rfl λ_ MJ=>aE gn MJ (iG (aC (λG3=>⟨by rw[ee G3],rfl⟩) λG3=>⟨by rw[eb G3],rfl⟩))),?_⟩))))
  .refine aE fT u.At (aK (x:=(⟨Dz,B.to,B.e,B.at_⟩:dT)) u.p2 fT rfl rfl λ_ u=>aE fT u.At ?_);have I:r=(⟨B.l,B.to,B.e,B.at_⟩:fI):=J.trans (ee wC);rw[I];have u:=u.p2.dD (Ψ:=(λw=>mL w (⟨Dz,B.to,B.e,B.at_⟩:dT) (⟨B.l,B.to,B.e,B.at_⟩:fI))) (λ_ h=>⟨_,rfl,kY h⟩);have u:=u.p1.drop.p1.drop;exact⟨_,rfl,u.fresh⟩
  rintro _ _ ⟨rfl,hw⟩ _;subst hw;obtain⟨op,ahn⟩:∃op,op=(if t.text=hZ #[45]then(3:Int)else 4):=⟨_,rfl⟩;rw[<- ahn];refine aM fH (E.ext u.aF) bL ht (λ_ Mj=>bW t.at_ lr Mj rfl rfl λ_ XG=>aE bO XG (pop (D5 _ _) (aW ([(⟨op,0,(hZ #[]),t.at_⟩:bY)]) u gV rfl rfl (dM rfl) λs_x66 _ u=>aA rN (aB (v:=hM (Dz:SV)) jy u.p1.hb rfl ?_))));have akd:=(DL.flat (kY u.p2.eH));refine bJ u gV akd (by simp;omega) cZ (λag9 _ u=>aA rN ?_);obtain⟨Qt,rfl⟩:=u.fQ;refine aV u.p1 jy (dM rfl) (rfl) (λ_ u=>have u:=u.enc (cs':=ia (⟨Qt,B.to,B.e,B.at_⟩:dT)) rfl;aE fT u.At (aK (x:=(⟨Qt,B.to,B.e,B.at_⟩:dT)) u.p3 fT rfl rfl λ_ u=>aE fT u.At ?_))
  have I:r=(⟨([(⟨op,0,(hZ #[]),t.at_⟩:bY)]++B.l),B.to,B.e,B.at_⟩:fI):=by rw[J,eb wC,<- ahn]
  rw[I];have u:=u.p2.freeze.dD (Ψ:=(λw=>mL w (⟨Qt,B.to,B.e,B.at_⟩:dT) (⟨([(⟨op,0,(hZ #[]),t.at_⟩:bY)]++B.l),B.to,B.e,B.at_⟩:fI))) (λ_ h=>⟨_,rfl,DL.j3 h⟩);have u:=u.p1.drop.p1.drop.p1.drop;exact⟨_,rfl,u.fresh⟩
 .refine aJ bL (aJ bL ?_);have ayt:¬ d=12:=λh=>by rw[G,M,ei h]at U;cases U
  obtain⟨B,W,J⟩:=Nf hr bL ht U G M;refine dO Rx ((HR _ (i+1) (d+1) 0 B _ (E.ext u.aF) W bL bL bL).1) ?_;rintro _ _ ⟨ayv,rfl,O⟩;have u:=u.made O;obtain⟨Y,ake,_⟩:=u.eH;subst ake;refine aQ u te (λXd _ u=>have u:=u.enc (cs':=ia (⟨cI,0,0,0⟩:dT)) rfl;aK (x:=(⟨Y,B.to,B.e,B.at_⟩:dT)) u fT rfl rfl λ_ u=>aA uj (aB (v:=hH B.e) jx u.hb rfl (bT (aC (λS7=>?_) λS7=>aA oG (aB (v:=hH B.to) bO u.hb rfl (aS vu u (C209 _ l B.to (hZ #[41]) _ (E.ext u.aF) hn) λ_ he u=>bP (aX (λS8=>?_) λS8=>?_)))))))
  .refine aE fT u.At (aK (x:=(⟨Y,B.to,B.e,B.at_⟩:dT)) u.p2 fT rfl rfl λ_ u=>aE fT u.At ?_);have I:r=(⟨B.l,B.to,B.e,B.at_⟩:fI):=J.trans (ee S7);rw[I];have u:=u.p2.dD (Ψ:=(λw=>mL w (⟨Y,B.to,B.e,B.at_⟩:dT) (⟨B.l,B.to,B.e,B.at_⟩:fI))) (λ_ h=>⟨_,rfl,kY h⟩);have u:=u.p1.drop.p1.drop;exact⟨_,rfl,u.fresh⟩
  .refine aA oG (aB (v:=hH B.to) bO u.hb rfl (dO RB (C320 _ l B.to 5 _ (E.ext u.aF) Z) ?_));rintro _ _ ⟨ayw,rfl,O⟩;have u:=u.made O;obtain⟨S9,akf,_⟩:=u.eH;subst akf;refine aK (x:=(⟨S9,(gl l B.to 5).to,(gl l B.to 5).e,(gl l B.to 5).at_⟩:dT)) u.p3 fT rfl rfl (λ_ u=>aE fT u.At ?_);have I:r=(⟨(gl l B.to 5).l,(gl l B.to 5).to,(gl l B.to 5).e,(gl l B.to 5).at_⟩:fI):=J.trans ((eb S7).trans (eb (by simpa using S8)));rw[I];have u:=u.p1.dD (Ψ:=(λw=>mL w (⟨S9,(gl l B.to 5).to,(gl l B.to 5).e,(gl l B.to 5).at_⟩:dT) (⟨(gl l B.to 5).l,(gl l B.to 5).to,(gl l B.to 5).e,(gl l B.to 5).at_⟩:fI))) (λ_ h=>⟨_,rfl,kY h⟩)
   have u:=u.p1.drop.p1.drop.p1.drop;exact⟨_,rfl,u.fresh⟩
  refine aA oG (aB (v:=hH B.to) bO u.hb rfl ?_);have sT:=sC (l:=l) (i:=B.to) (t:=hZ #[41]) (by simpa using S8);refine aJ bL (aA oG (aV u bO (dM rfl) (rfl) λ_ u=>have u:=u.enc (cs':=ia (⟨Y,(B.to+1),B.e,B.at_⟩:dT)) rfl;aE fT u.At (aK (x:=(⟨Y,(B.to+1),B.e,B.at_⟩:dT)) u.p2 fT rfl rfl λ_ u=>aE fT u.At ?_)));have I:r=(⟨B.l,(B.to+1),B.e,B.at_⟩:fI):=J.trans ((eb S7).trans (ee (by simpa using S8)));rw[I];have u:=u.p2.dD (Ψ:=(λw=>mL w (⟨Y,(B.to+1),B.e,B.at_⟩:dT) (⟨B.l,(B.to+1),B.e,B.at_⟩:fI))) (λ_ h=>⟨_,rfl,kY h⟩)
  have u:=u.p1.drop.p1.drop;exact⟨_,rfl,u.fresh⟩
 have Yh:=Ng hr bL ht U G M;refine aM fH (E.ext u.aF) bL ht (λ_ akg=>bW t.kind lq akg rfl rfl λ_ akh=>aE bO akh (aG (aC (λJG=>?_) λJG=>⟨λV w'=>V=.bool (decide (t.kind=1)&&gJ t.text)/\St w aY [bZ PX (ia (⟨cI,0,0,0⟩:dT))] w',aM fH (E.ext u.aF) bL ht (λ_ aki=>bW t.kind lq aki rfl rfl λ_ akj=>aE bO akj (aG (aC (λzn=>aM fH (E.ext u.aF) bL ht λ_ akk=>bW t.text ni akk rfl rfl λ_ akl=>aE gn akl (aS uc u (C211 _ _ bL) λ_ _ u=>⟨vb (by rw[ei zn];rfl),u⟩)) λzn=>⟨vb (by rw[ej zn];rfl),u⟩))),?_⟩)))
 .refine aM fH (E.ext u.aF) bL ht (λ_ akm=>bW t.n rM akm rfl rfl λ_ akn=>have u:=u.drew;aE bO akn (aM fH (E.ext u.aF) bL ht λ_ ako=>bW t.at_ lr ako rfl rfl λ_ Pk=>aE bO Pk (pop (IM _ _ _) (aJ bL (aW ([(⟨1,t.n,(hZ #[]),t.at_⟩:bY)]) u gV rfl rfl (dM rfl) λayx _ u=>?_)))));obtain⟨Ta,rfl⟩:=u.fQ;refine pop (yU _ _ _ _) (aK (x:=(⟨Ta,(i+1),0,0⟩:dT)) u.p1 fT rfl rfl λ_ u=>aE fT u.At ?_);have I:r=(⟨[(⟨1,t.n,(hZ #[]),t.at_⟩:bY)],(i+1),0,0⟩:fI):=Yh.trans (ee JG)
  rw[I];have u:=u.p1.freeze.dD (Ψ:=(λw=>mL w (⟨Ta,(i+1),0,0⟩:dT) (⟨[(⟨1,t.n,(hZ #[]),t.at_⟩:bY)],(i+1),0,0⟩:fI))) (λ_ h=>⟨_,rfl,DL.j3 h⟩);have u:=u.p1.drop;exact⟨_,rfl,u.fresh⟩
 rintro _ _ ⟨rfl,u⟩ _;refine aX (λQu=>?_) (λQu=>?_)
 .refine aM fH (E.ext u.aF) bL ht (λ_ akp=>bW t.text ni akp rfl rfl λ_ akq=>have u:=u.drew;aE gn akq (aM fH (E.ext u.aF) bL ht λ_ akr=>bW t.at_ lr akr rfl rfl λ_ Pl=>aE bO Pl (pop (IN _ _ _) (aJ bL (aW ([(⟨2,0,t.text,t.at_⟩:bY)]) u gV rfl rfl (dM rfl) λayy _ u=>?_)))));obtain⟨Tb,rfl⟩:=u.fQ;refine pop (yU _ _ _ _) (aK (x:=(⟨Tb,(i+1),0,0⟩:dT)) u.p1 fT rfl rfl λ_ u=>aE fT u.At ?_);have I:r=(⟨[(⟨2,0,t.text,t.at_⟩:bY)],(i+1),0,0⟩:fI):=Yh.trans ((eb JG).trans (ee Qu))
  rw[I];have u:=u.p1.freeze.dD (Ψ:=(λw=>mL w (⟨Tb,(i+1),0,0⟩:dT) (⟨[(⟨2,0,t.text,t.at_⟩:bY)],(i+1),0,0⟩:fI))) (λ_ h=>⟨_,rfl,DL.j3 h⟩);have u:=u.p1.drop;exact⟨_,rfl,u.fresh⟩
 refine dO RB (C320 _ l i 5 _ (E.ext u.aF) Z) ?_;rintro _ _ ⟨atU,rfl,O⟩;have u:=u.made O;obtain⟨Ni,aez,_⟩:=u.eH;subst aez;refine aK (x:=(⟨Ni,(gl l i 5).to,(gl l i 5).e,(gl l i 5).at_⟩:dT)) u.p1 fT rfl rfl (λ_ u=>aE fT u.At ?_);have I:r=(⟨(gl l i 5).l,(gl l i 5).to,(gl l i 5).e,(gl l i 5).at_⟩:fI):=Yh.trans ((eb JG).trans (eb (by simpa using Qu)));rw[I];have u:=u.p1.dD (Ψ:=(λw=>mL w (⟨Ni,(gl l i 5).to,(gl l i 5).e,(gl l i 5).at_⟩:dT) (⟨(gl l i 5).l,(gl l i 5).to,(gl l i 5).e,(gl l i 5).at_⟩:fI))) (λ_ h=>⟨_,rfl,kY h⟩)
 have u:=u.p1.drop;exact⟨_,rfl,u.fresh⟩
end Go.Proofs.YtpdlpabnlkofmaaGreatDoor

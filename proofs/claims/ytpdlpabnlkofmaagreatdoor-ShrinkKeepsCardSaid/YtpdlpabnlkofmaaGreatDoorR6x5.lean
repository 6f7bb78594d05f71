/-
  Part 5.
-/
import Derived.Test.YtpdlpabnlkofmaaGreatDoorR6x4
set_option maxHeartbeats 8000000
set_option linter.all false
set_option maxRecDepth 100000
open Go.Fw.Flat renaming val->ir,enc->j0,sz->mA,len->yY
open ByteArray renaming mk->kp
open List renaming getElem?_eq_some_iff->kB,mem_of_getElem?->kE,take_of_length_le->kO,getElem?_eq_getElem->la,length_append->lr,length_take->l1,length_singleton->l2,length_map->nc,getElem?_eq_none->nt,append_assoc->nK,getD_eq_getElem?_getD->n3,mem_map->ob,length_cons->oi,mem_cons_self->oj,append_nil->oO,getElem?_map->o1,mem_cons_of_mem->qo,replicate->r6,mem_cons->sl,length_eq_zero_iff->s4,range->tU,take_add_one->uH,any_eq_true->wS,foldl_append->FQ,range_succ->HZ,getElem?_range->H3,getElem?_drop->Jo,getElem?_take->JK,flatMap_append->Lv,mem_flatMap->QN
open Nat renaming zero_le->l0,le_refl->o6,le_trans->vt,le_of_ble_eq_true->E1,lt_succ_self->MH,lt_or_ge->P5,mul_pos->aca
open Go.Fw.Deep renaming dr->mi
open Go.Instr renaming build->mv,sliceAt->n0,sliceBounds->wM,box->Ae
open Option renaming bind_some->mU,some->n5,toList_some->J7
open Go.Value renaming int->nG,slice->yZ
open Int renaming toNat_natCast->pd
open Decidable renaming not_not->u1
open Bool renaming true_and->Av,not_false->P0
namespace Go.Proofs.YtpdlpabnlkofmaaGreatDoor
open Go.Fw
def lL(l:List bJ)(c:Int):Option Int:=(l.reverse.find? λx=>decide (x.kind=3/\x.cell=c)).map (·.n)
def C307(y sv:Value)(b:Nat)(xs:List bJ)(J:Nat->hM)(M:hM)(w:World)(hn:xs.length<=1073741824)
  (E:∀k W,J k W->Cell W b 0 sv/\dD (λ_=>True) W sv xs) (G:J 0 w)
  (U:∀k x W,xs.reverse[k]?=some x->J k W->kT hH y [hZ ((xs.length:Int)-1-k),ir x] W λv O=>(v=.bool true/\J (k+1) O)\/(v=.bool false/\M O)) :
  CR 307 [y,.pointer (some ⟨b,0,none⟩)] w (λ_ W=>J xs.length W\/M W):=by
 refine adT _ _ _ _ ?_;unfold S307;refine bN iV (E 0 w G).1 (aK gd (E 0 w G).2 (ft cO ?_));refine⟨λm x u=>∃k:Nat,x=hZ ((xs.length:Int)-1-k)/\m=xs.length-k/\k<=xs.length/\J k u,⟨_,0,ei,rfl,l0 _,G⟩,?_⟩;rintro m _ u ⟨k,rfl,rfl,hk,I⟩ _;refine cT (aC (λc=>?_) λc=>?_)
 .obtain⟨h1,h2⟩:=E k u I;have ot:k<xs.length:=cO
  have V:xs.reverse[k]?=some (xs[xs.length-1-k]'(cO)):=dI
  refine bN iV h1 (aQ gd h2 cO (x:=xs[xs.length-1-k]'(cO)) (by simp_all) λq Y=>aD iF Y ?_);obtain B:=U k _ u V I;refine kT.mono B ?_;rintro v w2 (⟨rfl,BO⟩|⟨rfl,Z⟩)
  .refine bT (fx (ft cO ?_))
   grind
  refine bT (hG ?_)
  grind
 grind
def C276(sv:Value)(w:World)(h1:xo sv=true):CR 276 [sv] w (λv w'=>∃b,v=.func (.func 307) [].toArray [.pointer (some ⟨b,0,none⟩)].toArray/\kq (bW b [sv]) w w'):=by
 have u:=St.start w;refine fj Tryz.func276 ?_;exact nQ u h1 (λb _ u=>⟨b,rfl,u.fresh⟩)
theorem IL{α:Type}{p:α->Bool}{l:List α}{k:Nat}{x:α}(B:∀y∈l.take k,p y=false)(G:l[k]?=some x)(E:p x=true):l.find? p=some x:=by
 rw[List.find?_eq_some_iff_getElem]
 have I:=(kB.1 G)
 obtain⟨u,J⟩:=I
 refine⟨E,k,u,J,λj M=>?_⟩
 have:=B (l[j]'(cO)) (List.mem_take_iff_getElem.2 ⟨j,cO,rfl⟩)
 simp[this]
def C226(p:Nat)(c room:Int)(l:List bJ)(w:World)(hb:uL w p room l)(hn:l.length<=1048576) :
  CR 226 [.pointer (some ⟨p,0,none⟩),hZ c] w (λv w'=>v=.tuple #[hZ ((lL l c).getD 0),.bool (lL l c).isSome]/\Ext w w'):=by
 obtain⟨sv,Ds,vr,hL⟩:=hb;have u:=St.start w;refine fj Tryz.func226 ?_;refine nQ u rfl (λb3 _ u=>gP u u0 rfl λb4 _ u=>gP u XX rfl λb5 _ u=>aE (aA ld (bN iV (vr.ext u.aG) (dO apa (C276 sv _ hL.one) ?_))));rintro _ _ ⟨b,rfl,cI⟩;have u:=u.made cI
 refine xD (cap:=[.pointer (some ⟨b,0,none⟩)]) (xs:=(tU l.length).map fun (k:Nat)=>[nG .i64 ((l.length:Int)-1-k),ir ((l.reverse[k]?).getD ⟨0,0,0,0⟩)]) apm u
  (λk M=>M=[bW b [sv],bW b5 [.bool false],bW b4 [hZ 0],bW b3 [hZ c]]/\∀y∈l.reverse.take k,decide (y.kind=3/\y.cell=c)=false)
  (λcd M=>cd=.ret/\∃x,lL l c=some x/\M=[bW b5 [.bool true],bW b4 [hZ x]])
  ⟨rfl,ei⟩ ei ?_ ?_ ?_ ?_ ?_ ?_
 ·
  intro y J Jx W hJ hJe U9 Z;refine(C307 y sv b l J Jx W cO (λk W E=>?_) U9 λk x W G E=>?_).mono λ_ _ r=>r.mono λv W' h=>?_
  .obtain⟨Y,M,⟨rfl,_⟩,hS⟩:=hJ k W E;exact⟨hS.p1.hb.cell rfl,hL.ext hS.aG⟩
  .have I:=(kB.1 G).1;rw[List.length_reverse]at I;have:=Z k [nG .i64 ((l.length:Int)-1-k),ir x] W (by rw[o1,H3 I];simp[G]) E;exact this
  simpa using h
 ·
  rintro k args Y1 Y2 B Kr M W E ⟨rfl,U⟩ hB hN hR u
  have I:k<l.length:=by
   have:=(kB.1 E).1
   simpa using this
  obtain⟨x,G⟩:∃x,l.reverse[k]?=some x:=⟨_,la (by simpa using I)⟩
  have ha:args=[nG .i64 ((l.length:Int)-1-k),ir x]:=by
   rw[o1,H3 I]at E;simp[G]at E;exact E.symm
  subst ha;dsimp only[EY];refine aN u rW (λb7 _ u=>E5 u iF rfl ee (by simp[xo,jo]) λ_ u=>?_);refine hB _ _ _ u.p1 (λw8 u=>?_);have e7:jo [nG IntKind.i64 0,hZ 0,hZ 0,hZ 0] 0 [nG .i64 x.kind,hZ x.line,hZ x.cell,hZ x.n]=j0 x:=rfl;refine⟨_,?_,λ_ _ h=>h⟩;refine aA gV (aB bL u.p1.hb rfl (aH ?_))
  have no:¬ (x.kind=3/\x.cell=c)->Kr none w8:=λO=>by
   refine hN _ _ u.p1.drop.p0 ⟨rfl,?_⟩;exact eh U G (by simpa using O)
  refine aC (λc1=>?_) (λc1=>?_)
  .refine aA mJ (aB bL u.p1.hb rfl (aB bL u.p5.hb rfl (aH ?_)));intro rY;refine aC (λc2=>aA pC (aB bL u.p1.hb rfl (aT u.p4 bL (E1 rfl) rfl λ_ u=>aT u.p4 A6 (E1 rfl) rfl λ_ u=>hR _ [bW b5 [.bool true],bW b4 [hZ x.n]] _ u.p5.drop.p4.drop.p3.drop.p2 ⟨rfl,x.n,?_,rfl⟩))) (λc2=>no λO=>c2 O.2);unfold lL;rw[IL U G (by simpa using⟨c1,c2⟩)];rfl
  intro rY;exact fx (no λO=>c1 O.1)
 ·
  rintro D M W ⟨rfl,U⟩ u;refine aT u.p3 bL (E1 rfl) rfl (λ_ u=>aT u.p3 A6 (E1 rfl) rfl λ_ u=>?_);refine Ff u.p2 (λV u=>?_);refine aB bL u.p1.hb rfl (aB A6 u.hb rfl ?_)
  have:lL l c=none:=by
   unfold lL
   rw[show l.reverse.find? _=none from List.find?_eq_none.2 λy Z=>by
    have:=U y (by rw[kO ei];exact Z);simp only[this];exact Bool.false_ne_true]
   rfl
  rw[this];exact⟨rfl,u.aG⟩
 .rintro D M W ⟨_,x,hl,rfl⟩ u;refine Ff u (λV u=>?_);refine aB bL u.p1.hb rfl (aB A6 u.hb rfl ?_);rw[hl];exact⟨rfl,u.aG⟩
 .rintro id D M W ⟨h,_⟩;cases h
 rintro c M ⟨h,_⟩;exact .inr h
theorem KD{α:Type}(l:List α)(i:Nat):([]++l.take i)++l.drop (i+1)=l.eraseIdx i:=by
 grind
def KE{α:Type}{xs ys:List α}{k:Nat}{e f:α}(h:xs.take k=ys.take k)(h1:xs[k]?=some e)(h2:ys[k]?=some f)(u:e=f):xs.take (k+1)=ys.take (k+1):=by
 rw[uH,uH,h,h1,h2,u]
def VL{α:Type}{xs ys:List α}{k:Nat}{e f:α}(h1:xs[k]?=some e)(h2:ys[k]?=some f)(u:¬ e=f):¬ xs=ys:=by
 grind
theorem Re{l:List bJ}{c:Int}{k:Nat}{x:bJ}(G:∀y∈l.drop (k+1),¬ (y.kind=3/\y.cell=c))(B:l[k]?=some x)(I:x.kind=3/\x.cell=c):lL l c=some x.n:=by
 unfold lL
 have E:=(kB.1 B).1
 rw[IL (k:=l.length-1-k) (x:=x) ?_ ?_ dI]
 .rfl
 .intro y u
  have:y∈l.drop (k+1):=by
   rw[List.take_reverse]at u
   grind
  grind
 grind
theorem Rf{l:List bJ}{c:Int}(u:∀y∈l,¬ (y.kind=3/\y.cell=c)):lL l c=none:=by
 grind[lL]
def TV{l:List bJ}{c:Int}{k:Nat}{x:bJ}(G:∀y∈l.drop (k+1),¬ (y.kind=3/\y.cell=c))(E:l[k]?=some x)(I:¬ (x.kind=3/\x.cell=c)):∀y∈l.drop k,¬ (y.kind=3/\y.cell=c):=by
 intro y B
 obtain⟨u,J⟩:=kB.1 E
 rw[List.drop_eq_getElem_cons u]at B
 grind
def afE{l:List bJ}{i:Int}{k:Nat}{x y:bJ}(u:0<=i)(h1:i<l.length)(B:l[i.toNat]?=some x)(I:k<i.toNat)(G:l[k]?=some y)(E:kh x y=false):r8 l i=false:=by
 rw[TS u h1 B]
 have:(l.take i.toNat).any (λy=>!kh x y)=true:=by
  rw[wS]
  exact⟨y,List.mem_iff_getElem?.2 ⟨k,dI⟩,dI⟩
 grind
def aaD{l:List bJ}{i:Int}{x:bJ}(u:0<=i)(h1:i<l.length)(E:l[i.toNat]?=some x)(B:∀y∈l.take i.toNat,kh x y=true):r8 l i=true:=by
 grind[r8]
def C49(room:Int)(w:World):CR 49 [hZ room] w (λv w'=>((room<1\/16<room)/\v=.tuple #[.pointer none,hZ 1]/\Ext w w')\/(1<=room/\room<=16/\∃b,v=.tuple #[.pointer (some ⟨b,0,none⟩),hZ 0]/\kq (jr b room []) w w')):=by
 have u:=St.start w;refine fj Tryz.func49 ?_;refine⟨_,?_,λ_ _ h=>h⟩;refine aR (aC (λB=>?_) λB=>?_)
 .intro E;exact hG (.inl ⟨cO,rfl,u.aG⟩)
 refine cQ ?_;intro E;exact aC (λ_=>.inl ⟨cO,rfl,u.aG⟩) (λ_=>pop (Yc _) (nR u λb _ u=>have u:=(u.eK (α:=bJ)).p1;.inr ⟨cO,cO,b,rfl,(jr.shut u).fresh⟩))
def C58(room:Int)(w:World):CR 58 [hZ room] w (λv w'=>((room<1\/16<room)/\v=.tuple #[.pointer none,hZ 1]/\Ext w w')\/(1<=room/\room<=16/\∃b,v=.tuple #[.pointer (some ⟨b,0,none⟩),hZ 0]/\kq (jr b room []) w w')):=by
 have u:=St.start w;refine fj Tryz.func58 ?_;refine⟨_,?_,λ_ _ h=>h⟩;refine aR (aC (λB=>?_) λB=>?_)
 .intro E;exact hG (.inl ⟨cO,rfl,u.aG⟩)
 refine cQ ?_;intro E;exact aC (λ_=>.inl ⟨cO,rfl,u.aG⟩) (λ_=>pop (Yd _) (nR u λb _ u=>have u:=(u.eK (α:=bJ)).p1;.inr ⟨cO,cO,b,rfl,(jr.shut u).fresh⟩))
def C71(M V:Value)(xs ys:List Int)(w:World)(E:dD (λ_=>True) w M xs)(O:dD (λ_=>True) w V ys)(hn:xs.length<=1073741824):CR 71 [M,V] w (λv w'=>v=.bool (decide (xs=ys))/\Ext w w'):=by
 have u:=St.start w;refine pj Tryz.func71 (pl:=P71) ?_;refine aK cS (E.ext u.aG) (aK cS (O.ext u.aG) (bQ (aC (λ_=>⟨vb (fV (by rintro rfl;omega)).symm,u.aG⟩) λgW=>?_)));refine⟨λm x U=>∃k:Nat,x=hZ (k:Int)/\m=xs.length-k/\k<=xs.length/\xs.take k=ys.take k/\St w aX [] U,⟨_,0,rfl,rfl,l0 _,rfl,u⟩,?_⟩;rintro m _ U ⟨k,rfl,rfl,hk,B,u⟩ _;refine aK cS (E.ext u.aG) (aR (aC (λZ=>?_) λ_=>⟨vb (ez (by rw[kO cO,kO cO]at B;exact B)).symm,u.aG⟩));obtain⟨me,I⟩:=gx xs (i:=(k:Int).toNat) cO
 refine aQ cS (E.ext u.aG) cO I (λ_ W=>have u:=u.drew;aD bL W ?_);obtain⟨q7,G⟩:=gx ys (i:=(k:Int).toNat) cO;exact aQ cS (O.ext u.aG) cO G (λ_ Y=>aD bL Y (bQ (aC (λJ=>⟨vb (fV (VL I G J)).symm,u.aG⟩) λJ=>aO cO ⟨xs.length-(k+1),cO,k+1,rfl,rfl,cO,KE B I G (u1.1 J),u⟩)))
def C229(p:Nat)(c room:Int)(l:List bJ)(w:World)(hb:uL w p room l)(hn:l.length<=1073741824):CR 229 [.pointer (some ⟨p,0,none⟩),hZ c] w (λv w'=>v=.tuple #[hZ ((lL l c).getD 0),.bool (lL l c).isSome]/\Ext w w'):=by
 obtain⟨sv,Ds,J,I⟩:=hb;have u:=St.start w;refine adI _ _ _ _ ?_;unfold S229;refine aE (aA im (bN iV (J.ext u.aG) (aK gd (I.ext u.aG) (ft cO ?_))));refine⟨λm x V=>∃k:Nat,x=hZ ((k:Int)-1)/\m=k/\k<=l.length/\(∀y∈l.drop k,¬ (y.kind=3/\y.cell=c))/\St w aX [] V,⟨_,l.length,rfl,rfl,o6 _,ei,u⟩,?_⟩;rintro k _ V ⟨_,rfl,rfl,hk,G,u⟩ _;refine cT (aC (λW=>?_) λW=>?_)
 .refine⟨_,?_,λ_ _ h=>h⟩;refine aE (aA im (bN iV (J.ext u.aG) ?_));obtain⟨B,E⟩:=gx l (i:=((k:Int)-1).toNat) cO;refine aQ gd (I.ext u.aG) cO E (λ_ BB=>bX B.kind gV BB rfl rfl λ_ q8=>aD bL q8 (aH (aC (λM=>?_) λM=>?_)))
  .refine aE (aA im (bN iV (J.ext u.aG) (aQ gd (I.ext u.aG) cO E λ_ Y=>bX B.cell mJ Y rfl rfl λ_ Z=>aD bL Z (aH ?_))));intro vH;refine aC (λU=>?_) (λU=>ft cO ⟨k-1,cO,k-1,by congr 1;omega,rfl,cO,TV (x:=B) (by rw[show k-1+1=k from cO];exact G) (by rw[<- E];congr 1;omega) (λO=>U O.2),u⟩);refine aE (aA im (bN iV (J.ext u.aG) (aQ gd (I.ext u.aG) cO E λ_ wO=>bX B.n pC wO rfl rfl λ_ vu=>aD bL vu ?_)))
   rw[Re (k:=k-1) (x:=B) (by rw[show k-1+1=k from cO];exact G) (by rw[<- E];congr 1;omega) ⟨M,U⟩];exact⟨rfl,u.aG⟩
  intro vH;exact fx (ft cO ⟨k-1,cO,k-1,by congr 1;omega,rfl,cO,TV (x:=B) (by rw[show k-1+1=k from cO];exact G) (by rw[<- E];congr 1;omega) (λO=>M O.1),u⟩)
 rw[Rf (by rw[show k=0 from cO]at G;simpa using G)];exact⟨rfl,u.aG⟩
def C151(p:Nat)(i room:Int)(l:List bJ)(w:World)(hb:uL w p room l)(hn:l.length<=1073741824):CR 151 [.pointer (some ⟨p,0,none⟩),hZ i] w (λv w'=>v=.bool (r8 l i)/\Ext w w'):=by
 obtain⟨sv,Ds,M,E⟩:=hb;have u:=St.start w;refine pj Tryz.func151 (pl:=awZ) ?_;refine⟨_,?_,λ_ _ h=>h⟩;refine aR (aC (λie=>?_) λie=>?_)
 .intro Y;exact hG ⟨vb (mg cO).symm,u.aG⟩
 refine aE (aA im (bN iV (M.ext u.aG) (aK gd (E.ext u.aG) (cT ?_))));intro Y;refine aC (λ_=>⟨vb (mg cO).symm,u.aG⟩) (λeE=>?_);refine⟨λm x U=>∃k:Nat,x=hZ (k:Int)/\m=i.toNat-k/\(k:Int)<=i/\(∀x y,l[i.toNat]?=some x->y∈l.take k->kh x y=true)/\St w aX [] U,⟨_,0,rfl,rfl,cO,ei,u⟩,?_⟩;rintro m _ U ⟨k,rfl,rfl,hk,V,u⟩ _;refine aR (aC (λW=>?_) λW=>⟨vb (aaD (x:=l[i.toNat]'(cO)) cO cO (la _) λy B=>V _ y (la _) (by rw[show k=i.toNat from cO];exact B)).symm,u.aG⟩)
 refine aE (aA im (have u:=u.drew;bN iV (M.ext u.aG) ?_));obtain⟨Z,G⟩:=gx l (i:=(i).toNat) cO;refine aQ gd (E.ext u.aG) cO G (λ_ sW=>aD iF sW (aE (aA im (bN iV (M.ext u.aG) ?_))));obtain⟨vv,J⟩:=gx l (i:=(k:Int).toNat) cO;refine aQ gd (E.ext u.aG) cO J (λ_ yb=>aD iF yb (aW aoV u (C222 _ _ _) λ_ he u=>bT (bD (λI=>⟨vb (afE cO cO G cO J (by simpa using I)).symm,u.aG⟩) λI=>aO cO ?_)));refine⟨i.toNat-(k+1),cO,k+1,rfl,rfl,cO,λx y O B=>?_,u⟩
 rw[n5.inj (O.symm.trans G)]at *;exact eh (φ:=λy=>kh Z y=true) (λy B=>V _ y O B) J (by simpa using I) y B
def C81(p:Nat)(room:Int)(l:List bJ)(w:World)(hb:uL w p room l)(hn:l.length<=1048576):CR 81 [.pointer (some ⟨p,0,none⟩)] w (λv w'=>kq (bE v (qe l)) w w'):=by
 have B:=hb;obtain⟨sv,Ds,W,J⟩:=hb;have u:=St.start w;refine fj Tryz.func81 ?_;refine aV ([]:List Int) u cS rfl rfl (dQ rfl) (λQm I u=>?_);refine⟨λm o x I=>∃k:Nat,x=hZ (k:Int)/\m=l.length-k/\k<=l.length/\St w aX [bE o (tn l k)] I,⟨_,0,rfl,rfl,l0 _,u⟩,?_⟩;rintro m o _ I ⟨k,rfl,rfl,hk,u⟩ _;have Y:=IH l k;refine aE (aA im (bN iV (W.ext u.aG) (aK gd (J.ext u.aG) (aR (aC (λO=>⟨_,aW ahd u (C151 _ _ _ _ _ (B.ext u.aG) cO) (λ_ Z u=>bD (λE=>?_) λE=>?_),λ_ _ h=>h⟩) λO=>?_)))))
 .refine aV ([(k:Int)]:List Int) u cS rfl rfl (dQ rfl) (λU _ u=>?_);have G:=u.dW;refine bI u.p1 cS G (by simp<;>omega) ee (λV _ u=>?_);have u:=u.p1.drop;intro M;exact aO cO ⟨l.length-(k+1),cO,k+1,rfl,rfl,cO,by rw[Gr E];exact u⟩
 .intro M;exact aO cO ⟨l.length-(k+1),cO,k+1,rfl,rfl,cO,by rw[II E];exact u⟩
 rw[Gs l cO]at u;exact u.fresh
def C230(p:Nat)(room:Int)(l:List bJ)(x:bJ)(F:Nat->Prop)(w:World)(O:(jr p room l).p w F)(V:l.length<=1048576):CR 230 [.pointer (some ⟨p,0,none⟩),ir x] w (λv w'=>v=hZ (NP room l x)/\nd F (jr p room (tu room l x)) w w'):=by
 have u:=St.begin O;obtain⟨sv,u⟩:=u.eA;have u:=u.split;refine pj Tryz.func230 (pl:=axd) ?_;refine cM u (λM _ u=>aD iF u.At (aW apb u (C277 _ _) λ_ U u=>bT (bD (λB=>?_) λB=>aE (aA im (have u:=u.drew;aB iV u.p1.hb rfl (aK gd u.p2.dW (aE (aA X7 (aB bL u.p1.hb rfl (cT (aC (λE=>?_) λE=>?_)))))))))))
 .have u:=u.p2.p2;rw[NQ (by simpa using B),NR (by simpa using B)];exact⟨rfl,(jr.shut u).mut⟩
 .have u:=u.p2.p2;rw[IJ (by simpa using B) E,IK E];exact⟨rfl,(jr.shut u).mut⟩
 refine aE (aA im (have u:=u.drew;aB iV u.p1.hb rfl (aD iF u.At (aV ([x]) u gd rfl rfl (dQ rfl) λG _ u=>?_))));refine⟨aF iV (u.p2.hb.cell rfl),?_⟩;have I:=u.dW;refine bI u.p3 gd I (by simp<;>omega) ee (λJ _ u=>have u:=u.p1.drop;aE (aA im (aT u.p2 iV (dQ rfl) u.dW.one λ_ u=>?_)));have u:=u.p1.p1;rw[TT (by simpa using B) E,TU (by simpa using B) E];exact⟨rfl,(jr.shut u).mut⟩
def C165(p:Nat)(room:Int)(l:List bJ)(i:Int)(F:Nat->Prop)(w:World)(W:(jr p room l).p w F)(hn:l.length<=1048576):CR 165 [.pointer (some ⟨p,0,none⟩),hZ i] w (λv w'=>v=.tuple #[ir (dL l i),hZ (ye l i)]/\nd F (jr p room (j4 l i)) w w'):=by
 have u:=St.begin W;obtain⟨sv,u⟩:=u.eA;have u:=u.split;refine adE _ _ _ _ ?_;unfold S165;refine aN u rW (λQp _ u=>?_);refine⟨_,?_,λ_ _ h=>h⟩;refine aR (aC (λY=>?_) λY=>?_)
 .intro M;refine hG (pop yM (aJ (x:=(⟨0,0,0,0⟩:bJ)) u iF rfl rfl λw3 u=>aD iF u.At ?_));have u:=u.p2.p2;rw[su (mg cO),yU cO,sw (mg cO)];exact⟨rfl,(jr.shut u).mut⟩
 refine aE (aA im (aB iV u.p1.hb rfl (aK gd u.p2.dW (cT ?_))));intro M;refine aC (λl6=>?_) (λl6=>aW ahd u (C151 _ _ _ _ _ (uL.mk' u.p1.hb u.p2.dW) cO) λ_ he u=>bT (bD (λB=>?_) λB=>?_))
 .refine pop yM (aJ (x:=(⟨0,0,0,0⟩:bJ)) u iF rfl rfl λw3 u=>aD iF u.At ?_);have u:=u.p2.p2;rw[su (mg cO),yU cO,sw (mg cO)];exact⟨rfl,(jr.shut u).mut⟩
 .refine pop yM (aJ (x:=(⟨0,0,0,0⟩:bJ)) u iF rfl rfl λ_ u=>aD iF u.At ?_);have u:=u.p2.p2;rw[su (by simpa using B),NS cO (by simpa using B),sw (by simpa using B)];exact⟨rfl,(jr.shut u).mut⟩
 refine aE (aA im (aB iV u.p1.hb rfl ?_));obtain⟨I,G⟩:=gx l (i:=(i).toNat) cO;refine dT u.p2 gd cO cO (λ_ Z=>gq u.p2 iF Z G (aN u rW λRd _ u=>aJ (x:=I) u iF rfl rfl λ_ u=>aV ([]:List bJ) u gd rfl rfl (dQ rfl) λasF _ u=>aE (aA im (aB iV u.p3.hb rfl (ml gd u.p4.dW cO cO λU zN=>?_)))));have E:=zN;refine bI u gd E (by simp<;>omega) ee (λarZ _ u=>aE (aA im (aB iV u.p3.hb rfl (aO cO (CC gd u.p4.dW cO cO λJ By=>?_)))))
 have O:=By;refine bI u gd O (by simp<;>omega) ee (λV _ u=>aE (aA im (aT u.p3 iV (dQ rfl) u.dW.one λ_ u=>aD iF u.p2.At (aJ (x:=I) u.p3 iF rfl rfl λ_ u=>aD iF u.At ?_))));have u:=u.p2.p2;rw[NU (by simpa using B) G,NT (by simpa using B),NV (by simpa using B),<- KD,<- show(i+1).toNat=i.toNat+1 from cO];exact⟨rfl,(jr.shut u).mut⟩
structure Mem where
 of:List Int
 eg:List Int
 l:List Int
 kept:List Int
 fP:Int->List kD
def gh(of:List Int):Int:=if of.length=0 then 0 else of.getD (of.length-1) 0+1
def og(k:List Int)(ws:List kD):List Int:=ws.foldl (λk w=>k.set w.cell.toNat w.n) k
theorem yf(ws:List kD):∀k:List Int,(og k ws).length=k.length:=by
 induction ws with
 | nil=>intro k;rfl
 | cons x ws u=>simp_all[og]
theorem C4(ws:List kD)(x:kD)(k:List Int):og k (ws++[x])=(og k ws).set x.cell.toNat x.n:=by
 unfold og;grind
theorem IM{ws:List kD}{j:Nat}{x:kD}{k:List Int}(u:ws[j]?=some x):og k (ws.take (j+1))=(og k (ws.take j)).set x.cell.toNat x.n:=by
 rw[uH,u];exact C4 _ _ _
def HD(m:Mem)(cell:Int):Bool:=decide (0<=cell/\cell<m.l.length)
def fw(m:Mem)(cell n:Int):Mem:=if HD m cell=true then {m with l:=m.l.set cell.toNat n,fP:=if cell<m.of.length then qt m.fP (m.of.getD cell.toNat 0) (m.fP (m.of.getD cell.toNat 0)++[⟨cell,n⟩])else m.fP}else m
def Gv(m:Mem)(line:Int):Bool:=decide (0<=line/\line<gh m.of)
def oM(m:Mem)(line:Int):Mem:=if Gv m line=true then {m with kept:=og m.kept (m.fP line),fP:=qt m.fP line []}else m
structure vI(m:Mem):Prop where
 LA:m.of.length<=m.eg.length
 fl:m.eg.length<=20
 ll:m.l.length=m.eg.length
 kl:m.kept.length=m.of.length
 ofr:∀n∈m.of,0<=n/\n<gh m.of
 lb:gh m.of<=20
 pc:∀k,∀x∈m.fP k,0<=x.cell/\x.cell<m.of.length
def MB(m:Mem)(n:Nat):Prop:=∀k,(m.fP k).length<=n
def iU(p:Nat)(ov fv:Value)(m:Mem):HP:=qm λlv=>qm λkv=>qm λpm=>sep (bW p [ov,fv,lv,kv,.map (some pm)]) (sep (bE lv m.l) (sep (bE kv m.kept) (rM pm m.fP)))
def BS(ov fv:Value)(m:Mem)(w:World):Prop:=dD (λ_=>True) w ov m.of/\dD (λ_=>True) w fv m.eg
def zu(w:World)(p:Nat)(m:Mem):Prop:=∃ov fv lv kv pm,Cell w p 0 ov/\Cell w p 1 fv/\Cell w p 2 lv/\Cell w p 3 kv/\Cell w p 4 (.map (some pm))/\dD (λ_=>True) w ov m.of/\dD (λ_=>True) w fv m.eg/\dD (λ_=>True) w lv m.l/\dD (λ_=>True) w kv m.kept/\wL w pm m.fP
section
variable {w w' w0:World}{A F:Nat->Prop}{R:List HP}{p:Nat}{ov fv lv kv:Value}{m:Mem}{pm:Nat}
theorem zu.ext(h:zu w p m)(e:Ext w w'):zu w' p m:=by
 obtain⟨ov,fv,lv,kv,pm,G,I,u,E,J,B,h1,h2,h3,h4⟩:=h
 exact⟨ov,fv,lv,kv,pm,G.ext e,I.ext e,u.ext e,E.ext e,J.ext e,B.ext e,h1.ext e,h2.ext e,h3.ext e,h4.ext e⟩
theorem zu.mk'(h:nh w p [ov,fv,lv,kv,.map (some pm)])(u:BS ov fv m w)(h2:dD (λ_=>True) w lv m.l)(h3:dD (λ_=>True) w kv m.kept)(h4:wL w pm m.fP):zu w p m:=
 ⟨ov,fv,lv,kv,pm,h.cell rfl,h.cell rfl,h.cell rfl,h.cell rfl,h.cell rfl,u.1,u.2,h2,h3,h4⟩
theorem iU.open(u:St w0 A (iU p ov fv m::R) w):∃lv kv pm,St w0 A (bW p [ov,fv,lv,kv,.map (some pm)]::bE lv m.l::bE kv m.kept::rM pm m.fP::R) w:=by
 obtain⟨lv,u⟩:=u.eA;obtain⟨kv,u⟩:=u.eA;obtain⟨pm,u⟩:=u.eA
 have h1:=u.split
 have h2:=h1.p1.split
 have h3:=h2.p1.split
 exact⟨lv,kv,pm,h3.p2.p3⟩
theorem iU.shut(u:St w0 A (bW p [ov,fv,lv,kv,.map (some pm)]::bE lv m.l::bE kv m.kept::rM pm m.fP::R) w):St w0 A (iU p ov fv m::R) w:=by
 have h1:St w0 A (sep (bE kv m.kept) (rM pm m.fP)::bW p [ov,fv,lv,kv,.map (some pm)]::bE lv m.l::R) w:=St.join u.p3.p3
 have h2:St w0 A (sep (bE lv m.l) (sep (bE kv m.kept) (rM pm m.fP))::bW p [ov,fv,lv,kv,.map (some pm)]::R) w:=St.join h1.p2
 exact St.eB lv (St.eB kv (St.eB pm (St.join h2.p1)))
theorem KF(u:St w0 A (iU p ov fv m::R) w)(B:BS ov fv m w):zu w p m:=by
 obtain⟨lv,kv,pm,u⟩:=iU.open u
 exact zu.mk' u.hb B u.p1.dW u.p2.dW u.p3.YY
end
def C148(p:Nat)(m:Mem)(w:World)(J:zu w p m)(B:vI m):CR 148 [(.pointer (some ⟨p,0,none⟩))] w (λv w'=>v=hZ (gh m.of)/\Ext w w'):=by
 have IN:=J;obtain⟨ov,fv,lv,kv,pm,G,c1,c2,c3,Y,I,V,Z,O,hP⟩:=J;have LB:=B.fl;have Kh:=B.LA;have zp:=B.ll;have Ag:=B.kl;have MS:=B.lb;have u:=St.start w;refine pj Tryz.func148 (pl:=awY) ?_;refine aE (aA xA (bN ey (G.ext u.aG) (aK cS (I.ext u.aG) (aH (aC (λ_=>⟨g6 (nG .i64) (by unfold gh;rw[ew cO]),u.aG⟩) λW=>aE (aA xA (have u:=u.drew;bN ey (G.ext u.aG) (aE (aA xA (bN ey (G.ext u.aG) (aK cS (I.ext u.aG) (ft cO ?_))))))))))));obtain⟨me,E⟩:=gx m.of (i:=((m.of.length:Int)-1).toNat) cO
 refine aQ cS I cO E (λ_ U=>aD bL (U.ext u.aG) ?_);have M:=B.ofr _ (kE E);exact aO cO ⟨g6 (nG .i64) (by unfold gh;rw[ej cO,n3,show m.of.length-1=((m.of.length:Int)-1).toNat from cO,E];rfl),u.aG⟩
def C227(p:Nat)(m:Mem)(cell:Int)(w:World)(G:zu w p m)(hk:vI m):CR 227 [(.pointer (some ⟨p,0,none⟩)),hZ cell] w (λv w'=>v=.tuple #[hZ (if HD m cell=true then m.l.getD cell.toNat 0 else 0),hZ (if HD m cell=true then 0 else 1)]/\Ext w w'):=by
 have IN:=G;obtain⟨ov,fv,lv,kv,pm,c0,c1,J,c3,c4,hO,Z,E,O,hP⟩:=G;have u:=St.start w;refine fj Tryz.func227 ?_;refine⟨λV w'=>V=.bool (decide (cell<0\/m.l.length<=cell))/\w=w',aR (aC (λ_=>⟨Ph cO,rfl⟩) λ_=>aE (aA sM (bN ey (J.ext u.aG) (aK cS (E.ext u.aG) (cT ⟨zi cO,rfl⟩))))),?_⟩;rintro _ _ ⟨rfl,M⟩ _;subst M;refine aC (λU=>?_) (λU=>?_)
 .have B:HD m cell=false:=by unfold HD;rw[decide_eq_false_iff_not];omega
  rw[B];exact⟨rfl,u.aG⟩
 refine aE (aA sM (bN ey (J.ext u.aG) ?_));obtain⟨Y,I⟩:=gx m.l (i:=cell.toNat) cO;refine aQ cS E cO I (λ_ W=>aD bL (W.ext u.aG) ?_);have B:HD m cell=true:=by unfold HD;rw[decide_eq_true_eq];omega
 rw[B,n3,I];exact⟨rfl,u.aG⟩
def C144(p:Nat)(m:Mem)(w:World)(E:zu w p m)(u:vI m):CR 144 [(.pointer (some ⟨p,0,none⟩))] w (λv w'=>kq (bE v m.l) w w'):=by
 have IN:=E;obtain⟨ov,fv,lv,kv,pm,c0,c1,J,U,O,hO,M,G,I,W⟩:=E;have Z:=u.fl;have Y:=u.LA;have V:=u.ll;have Ag:=u.kl;have MS:=u.lb;have B:=St.start w;refine fj Tryz.func144 ?_;exact aE (aA sM (bN ey (J.ext B.aG) (dV PN B (C83 _ _ _ (G.ext B.aG) cO) λ_ _ _ B=>B.fresh)))
def C145(p:Nat)(m:Mem)(w:World)(G:zu w p m)(u:vI m):CR 145 [(.pointer (some ⟨p,0,none⟩))] w (λv w'=>kq (bE v m.kept) w w'):=by
 have IN:=G;obtain⟨ov,fv,lv,kv,pm,c0,c1,c2,I,M,hO,J,O,E,V⟩:=G;have Y:=u.fl;have W:=u.LA;have U:=u.ll;have Z:=u.kl;have MS:=u.lb;have B:=St.start w;refine fj Tryz.func145 ?_;exact aE (aA Bc (bN ey (I.ext B.aG) (dV PN B (C83 _ _ _ (E.ext B.aG) cO) λ_ _ _ B=>B.fresh)))
def C156(p:Nat)(ov fv:Value)(m:Mem)(F:Nat->Prop)(cell n:Int)(w:World)(W:(iU p ov fv m).p w F)(O:∀w',gJ F w w'->BS ov fv m w')(E:vI m)(hb:MB m 1000000):CR 156 [(.pointer (some ⟨p,0,none⟩)),hZ cell,hZ n] w (λv w'=>v=hZ (if HD m cell=true then 0 else 1)/\nd F (iU p ov fv (fw m cell n)) w w'):=by
 have u:=St.begin W;obtain⟨lv,kv,pm,u⟩:=iU.open u;have LB:=E.fl;have Kh:=E.LA;have zp:=E.ll;have Ag:=E.kl;have MS:=E.lb;refine pj Tryz.func156 (pl:=aw0) ?_;refine⟨λZ w'=>Z=.bool (decide (cell<0\/m.l.length<=cell))/\w=w',aR (aC (λ_=>⟨Ph cO,rfl⟩) λ_=>aE (aA sM (aB ey u.hb rfl (aK cS u.p1.dW (cT ⟨zi cO,rfl⟩))))),?_⟩;rintro _ _ ⟨rfl,V⟩ _;subst V;refine aC (λl6=>?_) (λl6=>?_)
 .have u:=u.p3.p3.p3.p3;have G:HD m cell=false:=by unfold HD;rw[decide_eq_false_iff_not];omega
  unfold fw;rw[G];exact⟨rfl,(iU.shut u).mut⟩
 have G:HD m cell=true:=by unfold HD;rw[decide_eq_true_eq];omega
 refine aE (aA sM (aB ey u.hb rfl ?_));obtain⟨TW,Gw⟩:=gx m.l (i:=cell.toNat) cO;refine dT u.p1 cS cO cO (λ_ U=>jA _ u.p1 bL U cO λ_ u=>⟨λw'=>St w F [iU p ov fv (fw m cell n)] w',aE (aA xA (aB ey u.p1.hb rfl (aK cS (O _ u.aG).1 (aR (aC (λY=>?_) λY=>?_))))),?_⟩)
 .refine aE (aA xA (aB ey u.p1.hb rfl ?_));obtain⟨I,M⟩:=gx m.of (i:=cell.toNat) cO;refine aQ cS (O _ u.aG).1 cO M (λ_ zN=>aD bL zN (aE (aA sN (have u:=u.drew;aB zI u.p1.hb rfl (aE (aA sN (aB zI u.p1.hb rfl ?_)))))));have hbx:=hb I;obtain⟨J,u⟩:=u.p3.M5 (k:=I);refine⟨_,u.p1.CM Tryz.underlying185 Mh Bd,?_⟩;refine pop (Qc _ _) (aV ([(⟨cell,n⟩:kD)]) u Du rfl rfl (dQ rfl) λaqD _ u=>?_);refine⟨aF zI (u.p4.hb.cell rfl),?_⟩;refine⟨aF zI (u.p4.hb.cell rfl),?_⟩
  refine⟨u.p2.CM Tryz.underlying185 Mh Bd,?_⟩;have QC:=u.dW;refine bI u.p1 Du QC (by simp;omega) ee (λaqE _ u=>?_);have u:=u.p1.drop;refine⟨aF zI (u.p3.hb.cell rfl),?_⟩;obtain⟨Gx,rfl⟩:=u.fN;have u:=u.p1.p1;refine M6 u Tryz.underlying185 Mh (λ_ u=>?_);have u:=u.p3.p2.p3;have B:fw m cell n={m with l:=m.l.set cell.toNat n,fP:=qt m.fP I (m.fP I++[⟨cell,n⟩])}:=by unfold fw;rw[ew G,ew cO,n3,M];rfl
  rw[B];exact iU.shut (m:={m with l:=_,fP:=_}) u
 .have u:=u.p3.p3.p2.p3;have B:fw m cell n={m with l:=m.l.set cell.toNat n}:=by unfold fw;rw[ew G,ej cO]
  rw[B];exact iU.shut (m:={m with l:=_,fP:=_}) u
 intro _ u _;exact⟨by rw[G];rfl,u.mut⟩
def TX(m:Mem)(cut:List Int):Bool:=decide ((cut.length:Int)=gh m.of)&&(tU cut.length).all λi=>decide (0<=cut.getD i 0/\cut.getD i 0<=(m.fP i).length)
def pb(m:Mem)(cut:List Int)(k:Nat):List Int:=(tU k).foldl (λo (i:Nat)=>og o ((m.fP i).take (cut.getD i 0).toNat)) m.kept
def fy(m:Mem)(cut:List Int):Option (List Int):=if TX m cut=true then some (pb m cut cut.length)else none
theorem vw(m:Mem)(cut:List Int)(k:Nat):pb m cut (k+1)=og (pb m cut k) ((m.fP k).take (cut.getD k 0).toNat):=by
 unfold pb;rw[HZ,FQ];rfl
theorem mV(m:Mem)(cut:List Int):∀k,(pb m cut k).length=m.kept.length
 | 0=>rfl
 | k+1=>by rw[vw,yf,mV]
def NW{m:Mem}{cut:List Int}{k:Nat}{c:Int}(hc:cut[k]?=some c)(h:¬ (0<=c/\c<=(m.fP k).length)):fy m cut=none:=by
 unfold fy;grind[TX,pb]
def NX{m:Mem}{cut:List Int}(h:(cut.length:Int)≠gh m.of):fy m cut=none:=by
 unfold fy TX;grind
def yV{m:Mem}{cut:List Int}(h:(cut.length:Int)=gh m.of)(hc:∀(k:Nat) (c:Int),k<cut.length->cut[k]?=some c->0<=c/\c<=(m.fP k).length):fy m cut=some (pb m cut cut.length):=by
 unfold fy;grind[TX,pb]
def Gy(m:Mem)(n:Nat):List Nat:=(tU n).map fun (i:Nat)=>(m.fP i).length
theorem Gz{m:Mem}{n i:Nat}(h:i<n):(Gy m n)[i]?=some (m.fP i).length:=by
 unfold Gy;rw[o1,H3 h];rfl
def mW(m:Mem)(u:List Int):Mem:={m with kept:=u,l:=u++m.eg.drop u.length,fP:=λ_=>[]}
def C157(p:Nat)(ov fv:Value)(m:Mem)(F:Nat->Prop)(line:Int)(w:World)(Z:(iU p ov fv m).p w F)(hK:∀w',gJ F w w'->BS ov fv m w')(B:vI m)(hb:MB m 1000000):CR 157 [(.pointer (some ⟨p,0,none⟩)),hZ line] w (λv w'=>v=hZ (if Gv m line=true then 0 else 1)/\nd F (iU p ov fv (oM m line)) w w'):=by
 have u:=St.begin Z;obtain⟨lv,kv,pm,u⟩:=iU.open u;have LB:=B.fl;have Kh:=B.LA;have zp:=B.ll;have Ag:=B.kl;have MS:=B.lb;refine pj Tryz.func157 (pl:=aw1) ?_;refine⟨λjv w'=>jv=.bool (decide (line<0\/gh m.of<=line))/\St w F [bW p [ov,fv,lv,kv,.map (some pm)],bE lv m.l,bE kv m.kept,rM pm m.fP] w',aR (aC (λ_=>⟨vb (by first|exact(ez cO).symm|exact ga.2 cO),u⟩) λ_=>aW ahc u (C148 _ m _ (zu.mk' u.hb (hK _ u.aG) u.p1.dW u.p2.dW u.p3.YY) B) λ_ _ u=>cT ⟨vb (by first|exact(ez cO).symm|exact ga.2 cO),u⟩),?_⟩
 rintro _ _ ⟨rfl,u⟩ _;refine aC (λU=>?_) (λU=>?_)
 .have u:=u.p3.p3.p3.p3;have I:Gv m line=false:=by unfold Gv;rw[decide_eq_false_iff_not];omega
  unfold oM;rw[I];exact⟨rfl,(iU.shut u).mut⟩
 refine aE (aA sN (aB zI u.hb rfl ?_));obtain⟨E,u⟩:=u.p3.M5 (k:=line);refine⟨_,u.p1.CM Tryz.underlying185 Mh Bd,?_⟩;have Im:=hb line;refine aK Du u.dW ?_;have u:=u.p3.p3.p4.p4.p4;refine⟨λO x w1=>∃k:Nat,x=hZ (k:Int)/\O=(m.fP line).length-k/\k<=(m.fP line).length/\St w F [bE (ir E) (m.fP line),M4 pm m.fP line E,bE kv (og m.kept ((m.fP line).take k)),bW p [ov,fv,lv,kv,.map (some pm)],bE lv m.l] w1,⟨_,0,rfl,rfl,l0 _,u⟩,?_⟩;rintro O _ _ ⟨k,rfl,rfl,xd,u⟩ _;refine aR (aC (λV=>?_) λV=>?_)
 .obtain⟨G,J⟩:=gx (m.fP line) (i:=(k:Int).toNat) cO;refine dT u Du cO cO (λ_ Y=>?_);have hpc:=B.pc line _ (kE J);refine gq u SY Y J (aN u SZ λM _ u=>aJ (x:=G) u SY rfl rfl λ_ u=>aE (aA Bc (have u:=u.drew;aB ey u.p4.hb rfl (aA Mv ?_))));have Vl:=yf ((m.fP line).take k) m.kept;refine aB (v:=hZ G.cell) bL u.hb rfl (aA Mw (aB (v:=hZ G.n) bL u.hb rfl ?_));obtain⟨vv,pL⟩:=gx (og m.kept ((m.fP line).take k)) (i:=G.cell.toNat) cO
  exact dT u.p3 cS cO cO (λ_ yb=>jA _ u.p3 bL yb cO λ_ u=>aO cO (have u:=u.p1.drop.p4.p4.p2.p4.p4;⟨_,cO,k+1,rfl,rfl,cO,by rw[IM (j:=k) J];exact u⟩))
 rw[kO cO]at u;refine aE (aA sN (aB zI u.p3.hb rfl ?_));have u:=u.p1.p1.YZ;rw[Vp]at u;refine M7 u rfl Tryz.underlying185 Mh (λ_ _ u=>?_);have u:=u.p1.p3.p3;have I:Gv m line=true:=by unfold Gv;rw[decide_eq_true_eq];omega
 have W:oM m line={m with kept:=og m.kept (m.fP line),fP:=qt m.fP line []}:=by unfold oM;rw[ew I]
 rw[W,I];exact⟨rfl,(iU.shut (m:={m with kept:=_,fP:=_}) u).mut⟩
def C150(p:Nat)(m:Mem)(cut:List Int)(cv:Value)(w:World)(hm:zu w p m)(E:vI m)(hb:MB m 1000000)(W:dD (λ_=>True) w cv cut)(Ri:cut.length<=1000):CR 150 [(.pointer (some ⟨p,0,none⟩)),cv] w (λv w'=>(fy m cut=none/\v=.tuple #[.slice none 0 0,hZ 1]/\Ext w w')\/∃Z o,fy m cut=some Z/\v=.tuple #[o,hZ 0]/\kq (bE o Z) w w'):=by
 have IN:=hm;obtain⟨ov,fv,lv,kv,pm,c0,c1,c2,c3,c4,hO,Pq,hL,hKp,hP⟩:=hm;have LB:=E.fl;have Kh:=E.LA;have zp:=E.ll;have Ag:=E.kl;have MS:=E.lb;have u:=St.start w;refine fj Tryz.func150 ?_;refine aK cS (W.ext u.aG) (aW ahc u (C148 _ m _ (IN.ext u.aG) E) λI he u=>bQ (aC (λ_=>.inl ⟨NX cO,rfl,u.aG⟩) λjx=>dV aoK u (C145 _ m _ (IN.ext u.aG) E) λVw _ cI u=>aK cS (W.ext u.aG) ?_));refine⟨λG x I=>∃k:Nat,x=hZ (k:Int)/\G=cut.length-k/\k<=cut.length/\(∀(i:Nat) (c:Int),i<k->cut[i]?=some c->0<=c/\c<=(m.fP i).length)/\St w aX [bE Vw (pb m cut k)] I,⟨_,0,rfl,rfl,l0 _,λ_ _ h=>absurd h cO,u⟩,?_⟩
 rintro G _ w3 ⟨k,rfl,rfl,xd,j7,u⟩ _;refine aR (aC (λlg=>?_) λ_=>.inr ⟨_,_,yV cO (λi c _ hc=>j7 i c cO hc),rfl,by rw[show cut.length=k from cO];exact u.fresh⟩);obtain⟨B,J⟩:=gx cut (i:=(k:Int).toNat) cO;refine aQ cS W cO J (λ_ q8=>aD bL (q8.ext u.aG) ⟨λjv w'=>jv=.bool (decide (B<0\/(m.fP k).length<B))/\w3=w',aR (aC (λ_=>⟨Ph cO,rfl⟩) λ_=>aE (aA sN (bN zI (c4.ext u.aG) (Iu hP u.aG Tryz.underlying185 Mh Bd λ_ yb=>aK Du (yb.ext u.aG) (cQ ⟨zi cO,rfl⟩))))),?_⟩)
 rintro _ _ ⟨rfl,hw⟩ _;subst hw;refine aC (λ_=>.inl ⟨NW (k:=k) J cO,rfl,u.aG⟩) (λpH=>aE (aA sN (bN zI (c4.ext u.aG) (Iu hP u.aG Tryz.underlying185 Mh Bd λaih Y=>?_))));have hbk:=hb k;have Pk:((m.fP k).take B.toNat).length<=(m.fP k).length:=by rw[l1];omega
 refine jY Du (Y.ext u.aG) cO cO (λasj Q6=>?_);have Kv:=Q6 _ Y;refine aK Du (Kv.ext u.aG) ?_;refine⟨λG x I=>∃j:Nat,x=hZ (j:Int)/\G=((m.fP k).take B.toNat).length-j/\j<=((m.fP k).take B.toNat).length/\St w aX [bE Vw (og (pb m cut k) (((m.fP k).take B.toNat).take j))] I,⟨_,0,rfl,rfl,l0 _,u⟩,?_⟩;rintro G _ _ ⟨j,rfl,rfl,hj,u⟩ _;refine aR (aC (λxY=>?_) λxY=>?_)
 .obtain⟨M,U⟩:=gx ((m.fP (k:Int)).take B.toNat) (i:=(j:Int).toNat) cO;refine aQ Du Kv cO U (λ_ FW=>?_);have hpc:=E.pc k _ (List.mem_of_mem_take (kE U));refine aD SY (FW.ext u.aG) (aN u SZ λO _ u=>aJ (x:=M) u SY rfl rfl λ_ u=>aA Mv ?_);have Vl:=yf (((m.fP k).take B.toNat).take j) (pb m cut k);have hil:=mV m cut k;refine aB (v:=hZ M.cell) bL u.hb rfl (aA Mw (aB (v:=hZ M.n) bL u.hb rfl ?_));obtain⟨V,azM⟩:=gx (og (pb m cut k) (((m.fP k).take B.toNat).take j)) (i:=M.cell.toNat) cO
  exact dT u.p1 cS cO cO (λ_ NY=>jA _ u.p1 bL NY cO λ_ u=>aO cO (have u:=u.p1.drop;⟨_,cO,j+1,rfl,rfl,cO,by rw[IM (j:=j) U];exact u⟩))
 rw[kO (i:=j) cO]at u;refine aO cO ⟨_,cO,k+1,rfl,rfl,cO,λi c hi hc=>?_,?_⟩
 .by_cases e:i=k
  .subst e;obtain rfl:=n5.inj (hc.symm.trans J);omega
  exact j7 i c cO hc
 rw[vw,n3,show cut[k]?=some B from J];exact u
def C86(p:Nat)(ov fv:Value)(m:Mem)(F:Nat->Prop)(cut:List Int)(cv:Value)(w:World)(Z:(iU p ov fv m).p w F)(Y:∀w',gJ F w w'->BS ov fv m w')(E:vI m)(hb:MB m 1000000)(hC:∀w',gJ F w w'->dD (λ_=>True) w' cv cut)(Ri:cut.length<=1000):CR 86 [(.pointer (some ⟨p,0,none⟩)),cv] w (λv w'=>(fy m cut=none/\v=hZ 1/\nd F (iU p ov fv m) w w')\/∃W,fy m cut=some W/\v=hZ 0/\nd F (iU p ov fv (mW m W)) w w'):=by
 have u:=St.begin Z;obtain⟨lv,kv,pm,u⟩:=iU.open u;have LB:=E.fl;have Kh:=E.LA;have zp:=E.ll;have V:=E.kl;have MS:=E.lb;refine pj Tryz.func86 (pl:=P86) ?_;refine dO aoL (C150 _ m cut _ _ (zu.mk' u.hb (Y _ u.aG) u.p1.dW u.p2.dW u.p3.YY) E hb (hC _ u.aG) cO) ?_;rintro G _ U
 rcases U with⟨B,rfl,he⟩|⟨M,I,B,rfl,cI⟩
 .have u:=u.ext he;exact aM rfl (aM rfl (bQ (kr ee (have u:=u.p3.p3.p3.p3;.inl ⟨B,rfl,(iU.shut u).mut⟩))))
 have u:=u.made cI;refine aM rfl (aM rfl (bQ (fI ee (aE (aA Bc (aT u.p1 ey (dQ rfl) u.dW.one λ_ u=>aE (aA sM (have u:=u.drew;aB ey u.hb rfl (aE (aA X6 (aB ey u.hb rfl ?_)))))))))));refine M8 u.p2 cS (Y _ u.aG).2 cO (λ_ u=>aE (aA sM (aB ey u.p1.hb rfl (M8 u cS u.p2.dW (by rw[lr,List.length_drop];have J:M.length=m.of.length:=(by unfold fy at B;split at B<;>simp at B;rw[<- B,mV];exact V);omega) λ_ u=>BC (α:=kD) u λO _ u=>aE (aA sN (aT u.p2 zI (dQ rfl) (rfl) λ_ u=>?_))))))
 have u:=u.p4.drop.p4.drop.p1.p3.p3.p3;have J:M.length=m.of.length:=by unfold fy at B;split at B<;>simp at B;rw[<- B,mV];exact V
 rw[show m.l.drop m.eg.length=[]from List.drop_eq_nil_of_le cO,oO]at u;exact .inr ⟨_,B,rfl,(iU.shut (m:=mW m M) u).mut⟩
def KH(of:List Int)(stays:Int)(eg:List Int):Mem:=⟨of.take stays.toNat,eg,eg,eg.take stays.toNat,λ_=>[]⟩
def eF:List Nat->List (List Int)
 | []=>[[]]
 | p::ps=>(tU (p+1)).flatMap fun (i:Nat)=>(eF ps).map λt=>(i:Int)::t
theorem yg:∀{ps:List Nat}{c:List Int},c∈eF ps->c.length=ps.length
 | [],c,h=>by simp[eF]at h;grind
 | p::ps,c,h=>by
  simp only[eF,QN,ob]at h
  obtain⟨i,_,t,ht,rfl⟩:=h
  simp[yg ht]
theorem C5:∀{ps:List Nat}{c:List Int}{i p:Nat}{n:Int},c∈eF ps->ps[i]?=some p->c[i]?=some n->0<=n/\n<=p
 | [],c,i,p,n,h,u,_=>by simp at u
 | q::ps,c,i,p,n,h,u,hc=>by
  simp only[eF,QN,ob,List.mem_range]at h
  obtain⟨j,B,t,ht,rfl⟩:=h
  cases i with
  | zero=>grind
  | succ i=>
   rw[List.getElem?_cons_succ]at u hc
   exact C5 ht u hc
def HE(f:List Int->List Int)(l:List (List Int)):List (List Int)×List (List Int):=l.foldl (λs c=>if f c∈s.2 then s else(s.1++[c],s.2++[f c])) ([],[])
theorem yh(f:List Int->List Int)(l:List (List Int))(c:List Int):HE f (l++[c])=if f c∈(HE f l).2 then HE f l else((HE f l).1++[c],(HE f l).2++[f c]):=by
 unfold HE;grind
theorem NZ(f:List Int->List Int):∀(l:List (List Int)) (s:List (List Int)×List (List Int)),(l.foldl (λs c=>if f c∈s.2 then s else(s.1++[c],s.2++[f c])) s).1.length<=s.1.length+l.length
 | [],s=>o6 _
 | c::l,s=>by
  rw[List.foldl_cons]
  refine vt (NZ f l _) ?_
  grind
def KI(f:List Int->List Int)(l:List (List Int)):(HE f l).1.length<=l.length:=by
 have h:(HE f l).1.length<=([]:List (List Int)).length+l.length:=NZ f l ([],[])
 grind
def VM(xs:List Int):List Int:=xs++r6 (20-xs.length) 0
def N0(m:Mem)(c:List Int):List Int:=VM (pb m c c.length)
def xi(m:Mem):List Nat:=Gy m (gh m.of).toNat
def BT(m:Mem):List (List Int):=(HE (N0 m) (eF (xi m))).1
theorem EC(m:Mem):(xi m).length=(gh m.of).toNat:=by unfold xi Gy;simp
def nu{m:Mem}(B:vI m):0<=gh m.of:=by
 unfold gh;split
 .omega
 rename_i h
 have u:m.of.getD (m.of.length-1) 0∈m.of:=dI
 have:=(B.ofr _ u).1
 omega
def C53(of eg:List Int)(stays:Int)(av bv:Value)(w:World)(E:dD (λ_=>True) w av of)(I:dD (λ_=>True) w bv eg)(hlen:of.length=eg.length)(LB:of.length<=20)(jd:0<=stays/\stays<=of.length)(Hj:∀(k:Nat) (n:Int),(k:Int)<stays->of[k]?=some n->(n=ui of k\/(0<k/\n=ui of k-1))/\-10<=n/\n<=100):CR 53 [av,hZ stays,bv] w (λv w'=>∃(p:Nat) (ov fv:SV),v=.tuple #[.pointer (some ⟨p,0,none⟩),hZ 0]/\kq (sep (bE (ir ov) (of.take stays.toNat)) (sep (bE (ir fv) eg) (iU p (ir ov) (ir fv) (KH of stays eg)))) w w'):=by
 have u:=St.start w;refine fj Tryz.func53 ?_;refine⟨λjv w'=>jv=.bool (decide (of.length≠eg.length\/20<of.length\/stays<0\/of.length<stays))/\w=w',aK cS (E.ext u.aG) (aK cS (I.ext u.aG) (bQ (aC (λ_=>⟨Ph cO,rfl⟩) λ_=>aK cS (E.ext u.aG) (cQ (aC (λ_=>⟨Ph cO,rfl⟩) λ_=>aR (aC (λ_=>⟨Ph cO,rfl⟩) λ_=>aK cS (E.ext u.aG) (cQ ⟨zi cO,rfl⟩))))))),?_⟩;rintro _ w1 ⟨rfl,U⟩ _;subst U;refine aC (λmz=>absurd mz cO) (λmz=>jY cS (E.ext u.aG) cO cO λs_x34 V=>?_);have J:=V _ E
 refine aK cS (J.ext u.aG) ?_;refine⟨λmm l x w1=>∃(k:Nat) (last:Int),l=hZ last/\x=hZ (k:Int)/\mm=(of.take stays.toNat).length-k/\k<=(of.take stays.toNat).length/\last=ui of k-1/\-200<=last/\last<=200/\St w aX [] w1,⟨_,0,-1,rfl,rfl,rfl,l0 _,rfl,cO,cO,u⟩,?_⟩;rintro mm _ _ w2 ⟨k,last,rfl,rfl,rfl,xd,hlast,hl7,hl8,u⟩ _;have Pk:(of.take stays.toNat).length=stays.toNat:=by rw[l1];omega
 refine aR (aC (λpH=>?_) λpH=>?_)
 .obtain⟨G,wh⟩:=gx (of.take stays.toNat) (i:=(k:Int).toNat) cO;refine aQ cS J cO wh (λ_ xR=>?_)
  have B:of[k]?=some G:=by
   have M:=wh;rw[JK]at M
   split at M
   .exact M
   .cases M
  obtain⟨hl1,Hh,hl3⟩:=Hj k _ cO B;refine aD bL (xR.ext u.aG) ⟨λjv w'=>jv=.bool (decide (G≠last+1/\(k=0\/G≠last)))/\w2=w',aO cO (bQ (aC (λ_=>aH (aC (λ_=>⟨Ph cO,rfl⟩) λ_=>bQ ⟨zi cO,rfl⟩)) λ_=>⟨XE cO,rfl⟩)),?_⟩;rintro _ _ ⟨rfl,U⟩ _;subst U;refine aC (λDx=>absurd Dx (by have:=Hj k G cO B;simp;omega)) (λDx=>?_);have hws:ui of (k+1)=G+1:=by unfold ui;rw[ej cO,Nat.add_sub_cancel,n3,B];rfl
  exact aO cO ⟨_,cO,k+1,G,rfl,rfl,rfl,cO,cO,cO,cO,u⟩
 refine jY cS (E.ext u.aG) cO cO (λasJ O=>?_);have Y:=O _ E;refine dV PN u (C83 _ _ _ (Y.ext u.aG) (by first|omega|(rw[l1];omega))) (λx59 _ cI u=>dV PN u (C83 _ _ _ (I.ext u.aG) (by first|omega|(rw[l1];omega))) λx61 _ cI u=>dV PN u (C83 _ _ _ (I.ext u.aG) (by first|omega|(rw[l1];omega))) λx63 _ cI u=>BC (α:=kD) u λW _ u=>?_);obtain⟨ak9,rfl⟩:=u.p3.fN;obtain⟨ala,rfl⟩:=u.p2.fN;obtain⟨azN,rfl⟩:=u.p1.fN;refine pop (Fc _ _ _ _ _ _ _ _ _ _) (nR u λasK _ u=>jY cS (I.ext u.aG) cO cO λaiv Z=>?_)
 have alc:=Z _ I;exact dV PN u (C83 _ _ _ (alc.ext u.aG) (by first|omega|(rw[l1];omega))) (λ_ _ _ u=>aE (aA Bc (aT u.p1 ey (dQ rfl) u.dW.one λ_ u=>have u:=iU.shut (m:=KH of stays eg) u.p4.p5.p4.p4.p5.p5;⟨asK,ak9,ala,rfl,(St.join (St.join u.p2).p1).fresh⟩)))
def afF:List Int->Int->Int
 | [],n=>n
 | c::cs,n=>afF cs (Co (Co (n*10000)+c))
def ri(l:List Int)(k:Nat):Int:=afF (l.take k) 0
theorem IP:∀(l:List Int) (c n:Int),afF (l++[c]) n=Co (Co (afF l n*10000)+c)
 | [],_,_=>rfl
 | x::l,c,n=>IP l c _
theorem GA{l:List Int}{k:Nat}{c:Int}(h:l[k]?=some c):ri l (k+1)=Co (Co (ri l k*10000)+c):=by
 unfold ri;rw[uH,h];exact IP _ _ _
def nE(p q:aS):Bool:=decide (q.kind=p.kind)&&decide (q.t=p.t)&&decide (q.i=p.i)&&decide (p.cut.length=0)
def pk3(s:SV):aI:=⟨3,0,0,s⟩
theorem afG{w:World}{u:List SV}{cs:List (List Int)}(h:fT u cs w):fT (u.map pk3) (cs.map λc=>(⟨3,0,0,c⟩:aS)) w:=by
 refine⟨by simp[h.1],λi t x a b=>?_⟩
 rw[o1]at a b
 cases hs:u[i]? with
 | none=>rw[hs]at a;cases a
 | some s=>
  cases hc:cs[i]? with
  | none=>rw[hc]at b;cases b
  | some c=>
   rw[hs]at a;rw[hc]at b
   simp at a b;subst a b
   exact⟨s,rfl,h.2 i s c hs hc⟩
def C154(sv fv:Value)(xs:List aS)(φ:aS->Prop)(g:aS->Bool)(w:World)(Z:DL w sv xs)(hf:ug hH w fv φ g)(W:∀x∈xs,φ x)(hn:xs.length<=1073741824):CR 154 [sv,fv] w (λv w'=>v=hZ (sT g xs)/\Ext w w'):=by
 obtain⟨g0,first,cap,rfl,oD,Y⟩:=hf;have u:=St.start w;refine fj Tryz.func154 ?_;obtain⟨O,E,B⟩:=Z.open;have J:=B.1;refine aK fD (E.ext u.aG) ?_;refine⟨λm x U=>∃k:Nat,x=hZ (k:Int)/\m=xs.length-k/\k<=xs.length/\(∀y∈xs.take k,g y=false)/\St w aX [] U,⟨_,0,rfl,rfl,l0 _,ei,u⟩,?_⟩;rintro m _ U ⟨k,rfl,rfl,hk,I,u⟩ _;refine aR (aC (λjQ=>?_) λ_=>⟨g6 (nG .i64) (jm (by rw[kO cO]at I;exact I)).symm,u.aG⟩);obtain⟨iH,V⟩:=gx O (i:=(k:Int).toNat) cO;obtain⟨zR,G⟩:=gx xs (i:=(k:Int).toNat) cO
 obtain⟨VN,rfl,VO⟩:=B.2 _ _ _ V G;refine aQ fD E cO V (λ_ ix=>aD kj (ix.ext u.aG) (ij oD (Y _ zR U u.aG ⟨VN,rfl,(VO.ext u.aG)⟩ (W _ (kE G))) ?_));rintro _ _ ⟨rfl,he⟩;have u:=u.ext he;exact bD (λM=>⟨g6 (nG .i64) (my I G M).symm,u.aG⟩) (λM=>aO cO ⟨_,cO,k+1,rfl,rfl,cO,eh I G M,u⟩)
def C89(sv fv:Value)(xs:List aS)(φ:aS->Prop)(g:aS->Bool)(w:World)(E:DL w sv xs)(G:ug hH w fv φ g)(B:∀x∈xs,φ x)(I:xs.length<=1073741824):CR 89 [sv,fv] w (λv w'=>v=.bool (xs.any g)/\Ext w w'):=by
 have u:=St.start w;refine fj Tryz.func89 ?_;exact aW aoN u (C154 _ _ _ _ _ _ (E.ext u.aG) (G.ext u.aG) B cO) (λ_ _ u=>cT ⟨vb (lh _ _),u.aG⟩)
def jN(m:Mem)(c:Int):Int:=if HD m c=true then m.l.getD c.toNat 0 else 0
def aiy(p:Nat)(m:Mem)(c:Int)(w:World)(u:zu w p m)(B:vI m):CR 227 [.pointer (some ⟨p,0,none⟩),hZ c] w (λv w'=>v=.tuple #[hZ (jN m c),hZ (if HD m c=true then 0 else 1)]/\Ext w w'):=C227 p m c w u B
def IQ(m:Mem)(c n:Int):(fw m c n).of=m.of:=by unfold fw;grind
def uM(m:Mem)(c n:Int):(fw m c n).eg=m.eg:=by unfold fw;grind
def afH(m:Mem)(c:Int):(oM m c).of=m.of:=by unfold oM;grind
def N1(m:Mem)(c:Int):(oM m c).eg=m.eg:=by unfold oM;grind
def BS.write{ov fv:Value}{m:Mem}{w:World}{c n:Int}(h:BS ov fv m w):BS ov fv (fw m c n) w:=by grind[BS,fw]
theorem BS.out{ov fv:Value}{m:Mem}{w:World}{c:Int}(h:BS ov fv m w):BS ov fv (oM m c) w:=by grind[BS,oM]
def j5(m:Mem)(x:bJ):Mem:=if x.kind=3 then fw m x.cell x.n else if x.kind=7 then m else oM m x.line
def tW(t:Int)(x:bJ):cD:=if x.kind=3 then⟨12,t,x.cell,x.n,0⟩else if x.kind=7 then⟨14,t,0,0,0⟩else⟨13,t,x.line,0,0⟩
end Go.Proofs.YtpdlpabnlkofmaaGreatDoor
namespace Go.Fw
def kK(F:Nat->Prop)(w0 w':World):Prop:=∀b,F b->w'.heap[b]?=w0.heap[b]?
section
variable {α σ:Type}[Flat σ] [D:Deep α σ] {w w0:World}{A F:Nat->Prop}{L:List HP}{v:Value}{xs:List α}{ts us:List σ}
theorem St.BU{Φ:hM}(B:St w0 A (Fw.dZ Φ::L) w):∃F,St w0 A (Fw.dZ (kK F w)::L) w/\∀w',kK F w w'->Φ w':=by
 obtain⟨U,F,E,u,G,M,I,J⟩:=B.uC
 exact⟨F,⟨B.aG,U,F,E,⟨λw' h=>h,u.2⟩,G,M,I,J⟩,λw' h=>u.1 w' h⟩
theorem kK.refl(F:Nat->Prop)(w:World):kK F w w:=λ_ _=>rfl
theorem N2(B:∀x y:σ,j0 x=j0 y->x=y):∀{ts us:List σ},ts.length=us.length->flat ts=flat us->ts=us
 | [],[],_,_=>rfl
 | t::ts,u::us,hl,h=>by
  rw[kW,kW]at h
  have:=List.append_inj h (by rw[yY,yY])
  rw[B _ _ this.1,N2 B dI this.2]
 | [],_::_,hl,_=>by simp at hl
 | _::_,[],hl,_=>by simp at hl
theorem dD.func{S O:Nat->Prop}(E:∀x y:σ,j0 x=j0 y->x=y)(h:dD S w v ts)(Z:dD O w v us):ts=us:=by
 obtain⟨a,cap,rfl,hc,h3⟩:=h
 obtain⟨a',D0,I,V,G⟩:=Z
 simp only[yZ.injEq]at I
 obtain⟨rfl,M,rfl⟩:=I
 refine N2 E M (List.ext_getElem? λj=>?_)
 have uD:(flat ts).length=(flat us).length:=by rw[dG,dG,M]
 by_cases U:j<(flat ts).length
 .have u:j<(flat us).length:=cO
  rcases h3 with⟨rfl,_⟩|⟨b,o,rfl,_,h5⟩
  .grind
  rcases G with⟨rfl,_⟩|⟨b',o',J,_,B⟩
  .grind
  simp only[n5.injEq,Addr.mk.injEq,and_true]at J
  obtain⟨rfl,rfl⟩:=J
  have W:=h5 j _ (la U)
  have Y:=B j _ (la u)
  unfold Cell at W Y
  grind
 grind
theorem kK.rd(h:∀w',kK F w w'->DL w' v xs)(G:dD (λ_=>True) w v ts)(hn:ts.length=xs.length):∀w',kK F w w'->dD (λ_=>True) w' v ts:=by
 intro w' M
 have DX:=G
 obtain⟨a,cap,rfl,hc,h3⟩:=G
 rcases h3 with⟨h3,h4⟩|⟨b,o,rfl,h4,h5⟩
 .grind[dD]
 cases ts with
 | nil=>exact⟨_,cap,rfl,hc,.inr ⟨b,o,rfl,λh=>absurd rfl h,λj c B=>by simp[kV]at B⟩⟩
 | cons t ts=>
  by_cases V:F b
  .exact⟨_,cap,rfl,hc,.inr ⟨b,o,rfl,λ_=>trivial,λj c B=>(h5 j c B).of_eq (M b V)⟩⟩
  .exfalso
   have h6:DL (ChangeMaps.setBlock w b (.map #[] 0)) (.slice (some ⟨b,o,none⟩) (t::ts).length cap) xs:=h _ λb' W=>by
    simp only[ChangeMaps.setBlock];grind
   obtain⟨us,⟨a',D0,E,_,Y⟩,O,_⟩:=h6
   simp only[yZ.injEq]at E
   obtain⟨rfl,J,rfl⟩:=E
   have U:0<(flat us).length:=by rw[dG,<- J];exact aca ei (Flat.pos (α:=σ))
   rcases Y with⟨rfl,_⟩|⟨b',o',I,_,Z⟩
   .simp at J
   .simp only[n5.injEq,Addr.mk.injEq,and_true]at I
    obtain⟨rfl,rfl⟩:=I
    have u:=Z 0 _ (la U)
    have hb:=(h5 0 _ (la (by rw[dG];exact aca ei (Flat.pos (α:=σ))))).lt
    unfold Cell World.cell? at u
    dsimp only at u
    rw[kz _ hb]at u
    simp at u
theorem kK.fix(u:∀x y:σ,j0 x=j0 y->x=y)(h:∀w',kK F w w'->DL w' v xs):∃ts:List σ,ts.length=xs.length/\∀w',kK F w w'->dD (λ_=>True) w' v ts/\fT ts xs w':=by
 obtain⟨ts,G,hd⟩:=(h w (kK.refl F w)).open
 refine⟨ts,hd.1,λw' E=>?_⟩
 have h1:=kK.rd h G hd.1 w' E
 obtain⟨us,B,I⟩:=(h w' E).open
 rw[dD.func u h1 B]at *
 grind
end
section
variable {P:Program}{T:Nat}{cx cy:Bool}{a b:Int}{K:Value->Prop}
theorem aaH(h:0<=a-b/\a-b<=255)(k:K (.int .u8 (a-b))):eX P (ke .sub T cx cy (.int .u8 a) (.int .u8 b)) K:=
 ⟨_,(show pr P (ke .sub T cx cy (.int .u8 a) (.int .u8 b))=some (.int .u8 (a-b))from by
  show some (nG .u8 (IntKind.u8.wrap (a-b)))=_
  have:IntKind.u8.wrap (a-b)=a-b:=by
   unfold IntKind.wrap;simp[IntKind.bits,IntKind.signed];omega
  rw[this]),k⟩
theorem VP{src u:TypeId}(h1:P.underlying src=some (.int .u8))(h2:P.underlying u=some (.int .i64))(h:0<=a/\a<=255)(k:K (hZ a)):eX P (convert src u (.int .u8 a)) K:=by
 refine⟨_,?_,k⟩
 unfold convert
 simp only[cZ,cY h1,cY h2,mU]
 show some (nG .i64 (IntKind.i64.wrap a))=_
 rw[IntWalk.i64_in _ cO]
end
end Go.Fw
namespace Go.Proofs.YtpdlpabnlkofmaaGreatDoor
open Go.Fw
abbrev PD:=List (Bk×Bool)
def jz(b:Bk)(e:Bool)(p:PD):PD:=match b with
 | .nil=>p
 | .cons x c d r=>(.cons x c d r,e)::p
def gO:PD->PD
 | (.cons _ _ _ r,_)::p=>jz r false p
 | (.nil,_)::p=>p
 | []=>[]
def pM:PD->Option (bR×Bk×Bk)
 | (.cons x a b _,_)::_=>some (x,a,b)
 | _=>none
def mX(x:bR)(a:Bk)(p:PD):PD:=if x.n=0 then gO p else jz a false ((.cons {x with n:=x.n-1} a .nil .nil,true)::gO p)
def kL:PD->PD
 | []=>[]
 | (_,e)::p=>if e=true then p else kL p
structure kc where
 names:List ByteArray
 dY:List Int
 cJ:PD
 fault:Int
 buf:List bJ
def eR(t:kc)(l:List cC):Int×Bool:=if l.length=0 then(0,true)else((qw t.names t.dY l).1,decide ((qw t.names t.dY l).2=0))
def pN(t:kc)(s:ByteArray)(n:Int):kc:={t with dY:=t.dY.set (dA t.names s).toNat n}
def rj(t:kc)(x:bR)(a b:Bk)(n:Int):kc×Bool:=
 if x.kind=1 then({pN t x.eN n with cJ:=gO t.cJ},true)
 else if x.kind=11 then({t with cJ:=jz (if n=0 then b else a) false (gO t.cJ)},true)
 else if x.kind=12 then({t with cJ:=mX x a t.cJ},true)
 else if x.kind=13 then({t with cJ:=kL t.cJ},true)
 else if x.kind=14 then(if n=0 then({t with fault:=1},false)else({t with cJ:=gO t.cJ},true))
 else(t,false)
def rk(t:kc):kc×Bool:=match pM t.cJ with
 | none=>(t,false)
 | some (x,a,b)=>if (eR t x.e).2=true/\(eR t x.f).2=true then rj t x a b (eR t x.e).1 else({t with fault:=2},false)
def tX:Nat->kc->Option kc
 | 0,_=>none
 | n+1,t=>if (rk t).2=true then tX n (rk t).1 else some (rk t).1
def mh:Bk->Nat
 | .nil=>0
 | .cons x a b r=>(if x.kind=12 then x.n.toNat*(mh a+1)else mh a+mh b)+mh r+1
def ik(p:PD):Nat:=(p.map λq=>mh q.1).sum
theorem qA(q:Bk×Bool)(p:PD):ik (q::p)=mh q.1+ik p:=by simp[ik]
def D8(φ:bR->Prop):Bk->Prop
 | .nil=>True
 | .cons x a b r=>φ x/\D8 φ a/\D8 φ b/\D8 φ r
theorem VQ{φ:bR->Prop}:∀t:Bk,D8 φ t↔∀x∈t.flat,φ x:=by
 intro t
 induction t with
 | nil=>simp[D8,Bk.flat]
 | cons x a b r B E u=>
  simp only[D8,Bk.flat,B,E,u,sl,List.mem_append]
  grind
structure GB(φ:bR->Prop)(p:PD):Prop where
 ne:∀q∈p,q.1≠.nil
 st:∀q∈p,q.1.str
 al:∀q∈p,D8 φ q.1
section
variable {φ:bR->Prop}{p:PD}{b:Bk}{e:Bool}
theorem GB.tail{q:Bk×Bool}(h:GB φ (q::p)):GB φ p:=⟨λq u=>h.ne q (qo _ u),λq u=>h.st q (qo _ u),λq u=>h.al q (qo _ u)⟩
theorem GB.push(h:GB φ p)(G:b.str)(B:D8 φ b):GB φ (jz b e p):=by
 cases b with
 | nil=>exact h
 | cons x c d r=>
  refine⟨?_,?_,?_⟩<;>intro q u<;>rcases sl.1 u with rfl|u
  .intro E;cases E
  .exact h.ne q u
  .exact G
  .exact h.st q u
  .exact B
  .exact h.al q u
theorem GB.pop(h:GB φ p):GB φ (gO p):=by
 match p,h with
 | [],h=>exact h
 | (.nil,_)::p,h=>exact h.tail
 | (.cons x a b r,_)::p,h=>
  have u:=h.st _ (oj ..)
  have B:=h.al _ (oj ..)
  exact h.tail.push u.2.2.2.2.2.2 B.2.2.2
theorem GB.leave:∀{p:PD},GB φ p->GB φ (kL p)
 | [],h=>h
 | (_,e)::p,h=>by
  unfold kL;split
  .exact h.tail
  .exact h.tail.leave
theorem IS{x:bR}{a b:Bk}(h:pM p=some (x,a,b)):∃r e u,p=(.cons x a b r,e)::u:=by
 match p,h with
 | (.cons y c d r,e)::u,h=>cases h;grind
theorem IT(u:GB φ p)(h:pM p=none):p=[]:=by
 match p,u,h with
 | [],_,_=>rfl
 | (.nil,_)::_,u,_=>exact absurd rfl (u.ne _ (oj ..))
theorem tA:ik (jz b e p)=mh b+ik p:=by
 cases b with
 | nil=>simp[jz,mh]
 | cons x c d r=>exact qA _ _
theorem N3:∀p:PD,ik (kL p)<=ik p
 | []=>o6 _
 | (b,e)::p=>by
  have:=N3 p
  grind[ik,kL]
theorem VR(h:b≠.nil):1<=mh b:=by
 cases b with
 | nil=>grind
 | cons x c d r=>unfold mh;omega
theorem ED(h:GB φ p):p.length<=ik p:=by
 induction p with
 | nil=>simp
 | cons q p u=>
  have:=VR (h.ne q (oj ..))
  have:=u h.tail
  rw[qA,oi];omega
theorem tB{x:bR}{a b r:Bk}:mh (.cons x a b r)=(if x.kind=12 then x.n.toNat*(mh a+1)else mh a+mh b)+mh r+1:=rfl
theorem Rj{x:bR}{a b r:Bk}{u:PD}(h:p=(.cons x a b r,e)::u):ik (gO p)+1<=ik p:=by
 subst h
 show ik (jz r false u)+1<=_
 rw[tA,qA,tB];omega
end
structure tC(φ:bR->Prop)(t:kc):Prop where
 p:GB φ t.cJ
 rl:t.dY.length=t.names.length
 nb:t.names.length<=1000
 bl:t.buf.length<=1000
 cl:ik t.cJ<=10000
structure VS(cs ls ns:List ByteArray)(x:bR):Prop where
 k:1<=x.kind/\x.kind<=14
 e:x.e.length<=1000/\x.f.length<=1000
 n:x.kind=12->0<=x.n/\x.n<=1000
 el:¬ x.kind=11->x.eG<=0
 rg:x.kind=1\/x.kind=2\/x.kind=4->0<=dA ns x.eN
 cl:x.kind=2\/x.kind=3\/x.kind=4->0<=dA cs x.name
 lk:x.kind=9\/x.kind=10->0<=dA ls x.name
 nm:(∀y∈x.e,y.name.size<=1000)/\∀y∈x.f,y.name.size<=1000
abbrev yW(cs ls:List ByteArray)(t:kc):Prop:=tC (VS cs ls t.names) t
section
variable {φ:bR->Prop}{cs ls:List ByteArray}{t t' tR:kc}{x:bR}{a b:Bk}{n:Int}{k:Nat}
theorem tC.cJ{p:PD}(h:tC φ t)(u:GB φ p)(hc:ik p<=ik t.cJ):tC φ {t with cJ:=p}:=⟨u,h.rl,h.nb,h.bl,vt hc h.cl⟩
theorem tC.flt(h:tC φ t)(n:Int):tC φ {t with fault:=n}:=⟨h.p,h.rl,h.nb,h.bl,h.cl⟩
theorem tC.set(h:tC φ t)(s:ByteArray)(n:Int):tC φ (pN t s n):=⟨h.p,by simp[pN,h.rl],h.nb,h.bl,h.cl⟩
theorem tC.top(h:tC φ t)(ht:pM t.cJ=some (x,a,b)):φ x/\a.str/\b.str/\D8 φ a/\D8 φ b/\x.body=a.len/\x.eG=b.len/\a.len<=40/\∃r e p,t.cJ=(.cons x a b r,e)::p/\r.str/\D8 φ r:=by
 obtain⟨r,e,p,u⟩:=IS ht
 have h1:=h.p
 rw[u]at h1
 obtain⟨U,E,I,M,Y,O,W⟩:=h1.st _ (oj ..)
 obtain⟨V,J,G,B⟩:=h1.al _ (oj ..)
 grind
theorem afI(h:yW cs ls t)(ht:pM t.cJ=some (x,a,b)):yW cs ls (rj t x a b n).1/\(rj t x a b n).1.names=t.names/\((rj t x a b n).2=true->ik (rj t x a b n).1.cJ+1<=ik t.cJ):=by
 obtain⟨B,V,sb,W,ab,hb,he,Vl,r,e,p,I,sr,ar⟩:=h.top ht
 have E:=h.p.pop
 have J:=Rj (r:=r) I
 have u:ik t.cJ=mh (.cons x a b r)+ik p:=by rw[I,qA]
 have O:gO t.cJ=jz r false p:=by rw[I];rfl
 have U:ik (gO t.cJ)=mh r+ik p:=by rw[O,tA]
 rw[tB]at u
 unfold rj
 split
 .exact⟨(h.set x.eN n).cJ E (by show ik (gO t.cJ)<=ik t.cJ;omega),rfl,λ_=>J⟩
 split
 .rename_i VC
  rw[ej cO]at u
  have hc:ik (jz (if n=0 then b else a) false (gO t.cJ))+1<=ik t.cJ:=by rw[tA];grind
  refine⟨h.cJ (GB.push E ?_ ?_) cO,rfl,λ_=>hc⟩<;>split<;>assumption
 split
 .rename_i VC
  rw[ew VC]at u
  have Z:=B.n VC
  have MA:=B.el cO
  unfold mX
  split
  .exact⟨h.cJ E cO,rfl,λ_=>J⟩
  rename_i W9
  have M:ik (jz a false ((.cons {x with n:=x.n-1} a .nil .nil,true)::gO t.cJ))+1<=ik t.cJ:=by
   rw[tA,qA,tB,ew (by exact VC),u,U]
   have e:x.n.toNat=(x.n-1).toNat+1:=cO
   rw[e,Nat.succ_mul]
   show mh a+((x.n-1).toNat*(mh a+1)+mh .nil+1+_)+1<=_
   simp only[mh];omega
  refine⟨h.cJ (GB.push ⟨?_,?_,?_⟩ V W) cO,rfl,λ_=>M⟩<;>intro q G<;>rcases sl.1 G with rfl|G
  .grind
  .exact E.ne q G
  .exact⟨hb,by show x.eG=((0:Nat):Int);omega,Vl,l0 _,V,trivial,trivial⟩
  .exact E.st q G
  .exact⟨⟨B.k,B.e,λhk=>⟨dI,dI⟩,B.el,B.rg,B.cl,B.lk,B.nm⟩,W,trivial,trivial⟩
  exact E.al q G
 split
 .have hl:ik (kL t.cJ)+1<=ik t.cJ:=by
   rw[u,I];unfold kL
   have:=N3 p
   grind
  exact⟨h.cJ h.p.leave cO,rfl,λ_=>hl⟩
 split
 .split
  .exact⟨h.flt 1,rfl,λY=>by cases Y⟩
  exact⟨h.cJ E cO,rfl,λ_=>J⟩
 grind
theorem EE(h:yW cs ls t):yW cs ls (rk t).1/\(rk t).1.names=t.names/\((rk t).2=true->ik (rk t).1.cJ+1<=ik t.cJ):=by
 unfold rk
 cases ht:pM t.cJ with
 | none=>grind
 | some q=>
  obtain⟨x,a,b⟩:=q
  dsimp only
  split
  .exact afI h ht
  .exact⟨h.flt 2,rfl,λu=>by cases u⟩
theorem IU:∀(n:Nat) {t:kc},yW cs ls t->ik t.cJ<n->∃tR,tX n t=some tR/\yW cs ls tR/\tR.names=t.names
 | 0,_,_,hc=>by omega
 | n+1,t,h,hc=>by
  obtain⟨h1,h2,h3⟩:=EE h
  unfold tX
  split
  .rename_i hs
   have:=h3 hs
   have h4:yW cs ls (rk t).1:=by have:=h1;rw[yW,h2]at this |-;exact this
   obtain⟨tR,B,u,E⟩:=IU n h4 cO
   exact⟨tR,B,u,E.trans h2⟩
  grind
def goD(t:kc):kc:=(tX (ik t.cJ+1) t).getD t
theorem rn(h:yW cs ls t):tX (ik t.cJ+1) t=some (goD t)/\yW cs ls (goD t)/\(goD t).names=t.names:=by
 obtain⟨tR,B,u,E⟩:=IU (ik t.cJ+1) h (MH _)
 unfold goD
 grind
theorem IV{n:Nat}(h:tX n t=some tR):∃k,n=k+1:=by
 cases n with
 | zero=>cases h
 | succ k=>grind
theorem TY(h:tX (k+1) t=some tR)(u:rk t=(t',true)):tX k t'=some tR:=by
 unfold tX at h;rw[u]at h;exact h
theorem pO(h:tX (k+1) t=some tR)(u:rk t=(t',false)):tR=t':=by
 unfold tX at h;rw[u]at h;exact(n5.inj h).symm
theorem TZ:∀(n:Nat) {t tR:kc},tX n t=some tR->yW cs ls t->tR.fault=0->∀x a b,pM tR.cJ=some (x,a,b)->(2<=x.kind/\x.kind<=10)/\(eR tR x.e).2=true/\(eR tR x.f).2=true
 | 0,_,_,B,_,_,_,_,_,_=>by cases B
 | n+1,t,tR,B,h,u,x,a,b,ht=>by
  obtain⟨h1,h2,_⟩:=EE h
  unfold tX at B
  split at B
  .exact TZ n B cO u x a b ht
  .rename_i hs
   cases B
   have hb:(rk t).2=false:=by simpa using hs
   unfold rk at hb u ht
   cases hq:pM t.cJ with
   | none=>rw[hq]at ht;dsimp only at ht;rw[hq]at ht;cases ht
   | some q=>
    obtain⟨y,c,d⟩:=q
    rw[hq]at hb u ht
    dsimp only at hb u ht
    have E:=(h.top hq).1.k
    split at hb
    .rename_i hv
     rw[ew hv]at u ht
     unfold rj at hb u ht
     split at hb
     .cases hb
     rename_i k1
     rw[ej k1]at u ht
     split at hb
     .cases hb
     rename_i k2
     rw[ej k2]at u ht
     split at hb
     .cases hb
     rename_i k3
     rw[ej k3]at u ht
     split at hb
     .cases hb
     rename_i k4
     rw[ej k4]at u ht
     split at hb
     .rename_i k5
      rw[ew k5]at u
      split at hb
      .rename_i k6;rw[ew k6]at u;cases u
      .cases hb
     .rename_i k5
      rw[ej k5]at ht
      rw[hq]at ht;cases ht
      have e:(rk t).1=t:=by unfold rk;rw[hq];dsimp only;rw[ew hv];unfold rj;rw[ej k1,ej k2,ej k3,ej k4,ej k5]
      rw[e]
      exact⟨cO,hv⟩
    .rename_i hv
     rw[ej hv]at u;cases u
section
variable {e:Int}
theorem aaI(h:x.kind=1):rj t x a b e=({pN t x.eN e with cJ:=gO t.cJ},true):=by unfold rj;grind
theorem KJ(h:x.kind=11):rj t x a b e=({t with cJ:=jz (if e=0 then b else a) false (gO t.cJ)},true):=by unfold rj;simp[h]
theorem T0(h:x.kind=12):rj t x a b e=({t with cJ:=mX x a t.cJ},true):=by unfold rj;simp[h]
theorem T1(h:x.kind=13):rj t x a b e=({t with cJ:=kL t.cJ},true):=by unfold rj;simp[h]
theorem N4(h:x.kind=14)(u:e=0):rj t x a b e=({t with fault:=1},false):=by unfold rj;grind
theorem N5(h:x.kind=14)(u:¬ e=0):rj t x a b e=({t with cJ:=gO t.cJ},true):=by unfold rj;grind
theorem T3(h1:¬ x.kind=1)(h2:¬ x.kind=11)(h3:¬ x.kind=12)(h4:¬ x.kind=13)(h5:¬ x.kind=14):rj t x a b e=(t,false):=by grind[rj]
end
theorem aaJ(h:pM t.cJ=none):rk t=(t,false):=by unfold rk;rw[h]
theorem aaK(h:pM t.cJ=some (x,a,b))(h2:(eR t x.e).2=false):rk t=({t with fault:=2},false):=by unfold rk;grind
theorem aaL(h:pM t.cJ=some (x,a,b))(h3:(eR t x.f).2=false):rk t=({t with fault:=2},false):=by unfold rk;grind
theorem aaM(h:pM t.cJ=some (x,a,b))(h2:(eR t x.e).2=true)(h3:(eR t x.f).2=true):rk t=rj t x a b (eR t x.e).1:=by unfold rk;grind
end
def Rk(B:Option Addr)(E u:Nat)(G:Bool):pr hH (mv 143 [(0,.slice B E u),(1,.bool G)].toArray)=some (.agg [.slice B E u,.bool G].toArray):=by kernel_rfl
structure yj where
 l:SV
 KK:Bool
instance:Flat yj where
 agg:=true
 sz:=2
 enc e:=[.slice e.l.a e.l.n e.l.cap,.bool e.KK]
 val e:=.agg [.slice e.l.a e.l.n e.l.cap,.bool e.KK].toArray
 pos:=ee
 len _:=rfl
 one a v h:=by simp at h;rcases h with rfl|rfl<;>rfl
 oE _ _:=rfl
 oF h:=by cases h
variable (w:World) (K:Value->hM)
def S137(I:Value):Prop:=
 aL 193 w λa b=>nC I λc=>fA 138 c 3 λd=>lA 136 d b λe=>lN 136 e λf=>bB .eql 3 f (i 0) λg=>cV g (eX hH (mv 193 [].toArray) λh=>sA 193 a h b λj=>
 lA 193 a j λr=>K (.tuple #[r,(.slice none 0 0),(.slice none 0 0),ff]) j) (nC I λk=>fA 138 k 3 λl=>lA 136 l (drew b) λn=>nC I λo=>fA 138 o 3 λp=>lA 136 p (drew b) λq=>
 lN 136 q λs=>bB .sub 3 s (i 1) λt=>iA 136 n t λu=>fA 143 u 0 λv=>lA 141 v (drew b) λx=>iA 141 x (i 0) λy=>lA 193 y (drew b) λz=>aL 193 (drew b) λE O=>
 sA 193 E z O λB=>fA 193 E 6 λad=>lA 3 ad B λY=>bC .add 3 (i 1) Y λG=>fA 193 E 7 λU=>lA 3 U B λV=>bA .add 3 G V λJ=>lA 193 E (drew B) λW=>
 eX hH (n0 141 x (some (i 1)) (some G) (some G)) λZ=>eX hH (n0 141 x (some G) (some J) (some J)) λal=>sA 193 a W (drew B) λM=>
 lA 193 a M λHt=>K (.tuple #[Ht,Z,al,tt]) M)
def azP:dM:=λi=>match i with
 | 3=>.run 0 14
 | 7=>.run 0 14
 | _=>.nil
theorem afK(u:Value)(h:S137 w K u):CR 137 [u] w K:=
 qj 50 azP 60 [.cell 2 193,.tmp 3,.tmp 4,.tmp 5] Tryz.func137 h
def azQ:dM:=λi=>match i with
 | 3=>.run 0 14
 | _=>.nil
def S197(B:Value):Prop:=
 kP (λE G a=>∀_:Env,
 eQ (λK2=>eX hH (Op.unary .not G) λb=>cV b (nC B λc=>fA 138 c 3 λd=>lA 136 d a λe=>lN 136 e λf=>bB .gtr 3 f (i 0) λg=>K2 g a) (K2 ff a))
 (λh j=>∀_:Env,
 cV h (nC B λk=>fA 138 k 3 λl=>lA 136 l j λn=>lN 136 n λo=>bB .sub 3 o (i 1) λp=>nC B λq=>fA 138 q 3 λr=>lA 136 r j λs=>iA 136 s p λt=>fA 143 t 1 λu=>
 lA 4 u j λv=>nC B λx=>fA 138 x 3 λy=>lA 136 y j λz=>eX hH (n0 136 z none (some p) (some p)) λM=>nC B λI=>fA 138 I 3 λJ=>sA 136 J M j λO=>
 E v O) (K (.tuple #[]) j))) (λE=>E ff w)
theorem afL(u:Value)(h:S197 w K u):CR 197 [u] w K:=
 qj 38 (λ_=>.nil) 0 [] Tryz.func197 h
def S161(u E:Value):Prop:=
 lN 82 E λa=>bB .eql 3 a (i 0) λb=>cV b (K (.tuple #[(i 0),tt]) w) (nC u λc=>fA 138 c 1 λd=>lA 91 d (drew w) λe=>nC u λf=>fA 138 f 2 λg=>lA 41 g (drew w) λh=>
 cF 143 [E,e,h] (drew w) λj k=>xT j 0 λl=>xT j 1 λn=>xl (λB=>bB .neq 31 n (i 0) λo=>cV o (nC u λp=>fA 138 p 4 λq=>sA 3 q (i 2) k λr=>B r) (
 B k)) (λs=>∀_:Env,
 bB .eql 31 n (i 0) λt=>K (.tuple #[l,t]) s))
def azR:dM:=λi=>match i with
 | 3=>.run 0 15
 | _=>.nil
theorem afM(u B:Value)(h:S161 w K u B):CR 161 [u,B] w K:=
 qj 32 azR 48 [.tmp 4,.tmp 5] Tryz.func161 h
def S117(B:Value):Prop:=
 Su (λE a=>∀_:Env,
 cF 137 [B] a λb c=>xT b 0 λd=>xT b 1 λe=>xT b 2 λf=>xT b 3 λg=>aL 193 c λh j=>sA 193 h d j λk=>eX hH (Op.unary .not g) λl=>cV l (K (.tuple #[]) k) (
 fA 193 h 3 λn=>lA 82 n k λo=>cF 161 [B,o] k λp q=>xT p 0 λr=>xT p 1 λs=>eX hH (Op.unary .not s) λt=>cV t (K (.tuple #[]) q) (fA 193 h 4 λu=>lA 82 u q λv=>
 cF 161 [B,v] q λx y=>xT x 0 λ_=>xT x 1 λz=>eX hH (Op.unary .not z) λaa=>cV aa (K (.tuple #[]) y) (fA 193 h 0 λV=>lA 3 V y λG=>bB .eql 3 G (i 1) λad=>
 cV ad (nC B λae=>fA 138 ae 2 λO=>lA 41 O (drew y) λM=>nC B λah=>fA 138 ah 1 λU=>lA 91 U (drew y) λaj=>fA 193 h 1 λak=>lA 9 ak (drew y) λal=>
 cF 159 [aj,al] (drew y) λam J=>kA 41 O M J (iA 41 M am λW=>sA 3 W r J λap=>cF 164 [B] ap λ_ aq=>E aq)) (bB .eql 3 G (i 11) λar=>cV ar (cF 164 [B] y λ_ asx=>
 eQ (λK2=>bB .eql 3 r (i 0) λau=>cV au (K2 f asx) (K2 e asx)) (λI av=>∀_:Env,
 cF 116 [B,I,ff] av λ_ Y=>E Y)) (bB .eql 3 G (i 12) λax=>cV ax (lA 193 h y λay=>cF 196 [B,ay,e] y λ_ az=>E az) (bB .eql 3 G (i 13) λa0=>cV a0 (cF 197 [B] y λ_ a1=>
 E a1) (bB .eql 3 G (i 14) λa2=>cV a2 (bB .eql 3 r (i 0) λa3=>cV a3 (nC B λa4=>fA 138 a4 4 λa5=>sA 3 a5 (i 1) y λZ=>K (.tuple #[]) Z) (cF 164 [B] y λ_ a7=>
 E a7)) (K (.tuple #[]) y))))))))) (λE=>E w)
def azS:dM:=λi=>match i with
 | 8=>(.of [(0,[]),(1,[]),(2,[]),(3,[]),(4,[]),(5,[]),(6,[]),(7,[]),(8,[]),(9,[]),(11,[]),(10,[3]),(12,[]),(13,[])])
 | _=>.nil
theorem afN(u:Value)(h:S117 w K u):CR 117 [u] w K:=
 qj 83 azS 0 [] Tryz.func117 h
theorem N6:PL 116:=dR Tryz.func116
theorem aaO:PL 137:=dR Tryz.func137
theorem N7:PL 164:=dR Tryz.func164
theorem asP:PL 196:=dR Tryz.func196
theorem asQ:PL 197:=dR Tryz.func197
theorem N8:PL 161:=dR Tryz.func161
theorem aiA:PL 117:=dR Tryz.func117
theorem aiB:PL 141:=dR Tryz.func141
end Go.Proofs.YtpdlpabnlkofmaaGreatDoor
namespace Go.Fw
section
variable {P:Program}{w w0:World}{A S:Nat->Prop}{L:List HP}
theorem Az{n cap l h m:Nat}{lo hi B:Option Value}(M:lo=none/\l=0\/∃i:Int,lo=some (hZ i)/\0<=i/\l=i.toNat)(J:∃i:Int,hi=some (hZ i)/\0<=i/\h=i.toNat)(G:∃i:Int,B=some (hZ i)/\0<=i/\m=i.toNat)
  (h1:l<=h) (h2:h<=m) (h3:m<=cap):pr P (wM true n cap lo hi B)=some (l,h,m):=by
 obtain⟨j,rfl,u,rfl⟩:=J
 obtain⟨k,rfl,E,rfl⟩:=G
 rcases M with⟨rfl,rfl⟩|⟨i,rfl,I,rfl⟩<;>simp only[wM,cZ,fY,mU]
 .rw[jt E cO];simp only[mU];rw[jt u cO];rfl
 rw[jt E cO];simp only[mU];rw[jt u cO];simp only[mU];rw[jt I cO];rfl
theorem KL{T E sz J:Nat}{z:Option Nat}{a:Option Addr}{n cap l h m:Nat}{lo hi u:Option Value}(ht:eY P T=some (E,sz,J,z))
  (hb:pr P (wM true n cap lo hi u)=some (l,h,m)) :
  pr P (n0 T (.slice a n cap) lo hi u)=some (.slice (if m=l then a else a.map (·.add (l*sz))) (h-l) (m-l)):=by
 obtain⟨B,I,G,M,_⟩:=fz ht
 unfold n0
 rw[cZ,cY B]
 simp only[mU]
 unfold Instr.slice
 rw[cZ,cY B]
 simp only[mU]
 rw[cZ,hb]
 simp only[mU]
 rw[cZ,ni G,M]
 rfl
variable {α:Type}[Flat α] {xs:List α}
theorem dD.asR{v:Value}{a:Option Addr}{n cap l h:Nat}(I:v=.slice a n cap)(O:dD S w v xs)(h1:l<=h)(h2:h<=xs.length) :
  dD S w (.slice (if h=l then a else a.map (·.add (l*mA α))) (h-l) (h-l)) ((xs.take h).drop l):=by
 obtain⟨U,Y,M,V,h3⟩:=O
 rw[M]at I
 simp only[yZ.injEq]at I
 obtain⟨rfl,Z,rfl⟩:=I
 have hlen:((xs.take h).drop l).length=h-l:=by simp;omega
 rcases h3 with⟨G,W⟩|⟨b,o,rfl,h4,h5⟩
 .subst G
  exact⟨_,h-l,by rw[hlen],ei,.inl ⟨ei,by simp at h2;omega⟩⟩
 refine⟨_,h-l,by rw[hlen],by rw[hlen];exact o6 _,.inr ?_⟩
 have J:(xs.take h).drop l≠[]->xs≠[]:=λE B=>E (by rw[B];simp)
 by_cases E:h=l
 .rw[ew E]
  refine⟨b,o,rfl,λB=>h4 (J B),λj c u=>?_⟩
  have:((xs.take h).drop l)=[]:=by rw[<- s4,hlen];omega
  rw[this]at u;simp[kV]at u
 rw[ej E]
 refine⟨b,o+l*mA α,by simp[gT],λB=>h4 (J B),λj c u=>?_⟩
 rw[H9,H8,Jo,JK]at u
 split at u
 .have:=h5 _ c u
  rwa [show o+(l*mA α+j)=o+l*mA α+j from cO]at this
 cases u
theorem N9{T E G:Nat}{z:Option Nat}{v:Value}{i j:Int}{K:Value->Prop}(ht:eY P T=some (E,mA α,G,z))(J:dD S w v xs)
  (I:0<=i) (h1:i<=j) (h2:j<=xs.length) (k:∀B,(∀w' (ys:List α),dD S w' v ys->dD S w' B ((ys.take j.toNat).drop i.toNat))->K B):eX P (n0 T v (some (hZ i)) (some (hZ j)) (some (hZ j))) K:=by
 obtain⟨a,cap,rfl,M,h3⟩:=J
 refine⟨_,KL ht (Az (.inr ⟨i,rfl,I,rfl⟩) ⟨j,rfl,cO,rfl⟩ ⟨j,rfl,cO,rfl⟩ cO (o6 _) cO),k _ λw' ys u=>u.asR rfl cO ?_⟩
 obtain⟨_,_,h4,_⟩:=u
 grind
theorem GC{T E G:Nat}{z:Option Nat}{v:Value}{i:Int}{K:Value->Prop}(ht:eY P T=some (E,mA α,G,z))(J:dD S w v xs)
  (I:0<=i) (h2:i<=xs.length) (k:∀B,(∀w' (ys:List α),dD S w' v ys->dD S w' B (ys.drop i.toNat))->K B):eX P (n0 T v (some (hZ i)) none none) K:=by
 obtain⟨a,cap,rfl,M,h3⟩:=J
 refine⟨_,xq ht (oU (.inr ⟨i,rfl,I,rfl⟩) (.inl ⟨rfl,rfl⟩) cO cO),k _ λw' ys u=>?_⟩
 have O:ys.length=xs.length:=by
  obtain⟨_,_,h4,_⟩:=u
  grind
 have:=u.cut rfl (show i.toNat<=ys.length by omega) (o6 _)
 grind
theorem DF{T E U:Nat}{z:Option Nat}{v:Value}{i:Int}{K:Value->Prop}(ht:eY P T=some (E,mA α,U,z))
  (O:St w0 A (bE v xs::L) w) (J:0<=i) (h1:i<=xs.length) (k:∀I,St w0 A (bE I (xs.take i.toNat)::L) w->K I):eX P (n0 T v none (some (hZ i)) (some (hZ i))) K:=by
 obtain⟨a,cap,u,Z,_⟩:=O.dW
 refine⟨_,(by rw[u];exact KL ht (Az (.inl ⟨rfl,rfl⟩) ⟨i,rfl,J,rfl⟩ ⟨i,rfl,J,rfl⟩ (l0 _) (o6 _) cO)),k _ ?_⟩
 refine O.rV λF B=>?_
 rcases B with⟨G,Y,V⟩|⟨b,D0,rest,W,hb,hl,B⟩
 .rw[G]at u
  subst Y
  simp only[yZ.injEq]at u
  obtain⟨rfl,_,rfl⟩:=u
  have hi:i.toNat=0:=by simp at h1;omega
  refine⟨F,.inl ⟨?_,ei,V⟩,λb hb=>.inl hb,gJ.refl _ _⟩
  rw[hi];rfl
 rw[W]at u
 simp only[yZ.injEq]at u
 obtain⟨rfl,_,rfl⟩:=u
 have M:(xs.take i.toNat).length=i.toNat:=by rw[l1];omega
 refine⟨F,.inr ⟨b,i.toNat,flat (xs.drop i.toNat)++rest,?_,?_,⟨cO,?_⟩,B⟩,λb hb=>.inl hb,gJ.refl _ _⟩
 .rw[M]
  simp[gT]
 .rw[<- nK,<- gU,List.take_append_drop];exact hb
 rw[lr,dG,M];omega
end
end Go.Fw
namespace Go.Proofs.YtpdlpabnlkofmaaGreatDoor
open Go.Fw
def rR(K:hM)(sv:SV)(rows:List bF)(l:List bR)(w:World):Prop:=(∀w',K w'->fT rows l w')/\(K w->dD (λ_=>True) w (ir sv) rows)
abbrev PE:=List (yj×List bF)
def EF(K:hM)(w:World):PE->PD->Prop
 | [],[]=>True
 | e::es,q::p=>(e.1.KK=q.2/\rR K e.1.l e.2 q.1.flat w)/\EF K w es p
 | _,_=>False
def Pr(es:PE):List yj:=(es.map Prod.fst).reverse
theorem aaP(e:yj×List bF)(es:PE):Pr (e::es)=Pr es++[e.1]:=by simp[Pr]
theorem r9(es:PE):(Pr es).length=es.length:=by simp[Pr]
theorem EF.len{K:hM}{w:World}:∀{es:PE}{p:PD},EF K w es p->es.length=p.length
 | [],[],_=>rfl
 | e::es,q::p,h=>by have:=EF.len h.2;simp[this]
 | [],_::_,h=>h.elim
 | _::_,[],h=>h.elim
def eZ(K Φ:hM)(p:Nat)(room:Int)(t:kc):HP:=qm λB:Nat=>qm λu:SV=>qm λrg=>qm λpl=>qm λes:PE=>fact (∀w,K w->dD (λ_=>True) w (ir u) t.names)
 (sep (bW p [.pointer (some ⟨B,0,none⟩),ir u,rg,pl,hZ t.fault]) (sep (jr B room t.buf) (sep (bE rg t.dY) (sep (bE pl (Pr es)) (dZ λw=>EF K w es t.cJ/\Φ w)))))
abbrev sd(K:hM)(p:Nat)(room:Int)(t:kc):HP:=eZ K (λ_=>True) p room t
section
variable {w w0:World}{A:Nat->Prop}{R:List HP}{p:Nat}{K Φ Ψ:hM}{room:Int}{t:kc}
theorem tD{H1 H2 u B E:HP}(G:St w0 A (sep H1 (sep H2 (sep u (sep B E)))::R) w):St w0 A (H1::H2::u::B::E::R) w:=by
 have h1:=G.split
 have h2:=h1.p1.split
 have h3:=h2.p1.split
 have h4:=h3.p1.split
 exact h4.p2.p3.p4
theorem tE{H1 H2 u B E:HP}(G:St w0 A (H1::H2::u::B::E::R) w):St w0 A (sep H1 (sep H2 (sep u (sep B E)))::R) w:=by
 have h4:=St.join G.p4.p4
 have h3:=St.join h4.p3
 have h2:=St.join h3.p2
 exact St.join h2.p1
abbrev BV(B:Nat)(u:SV)(rg pl:Value)(f:Int):List Value:=[.pointer (some ⟨B,0,none⟩),ir u,rg,pl,.int .i64 f]
theorem eZ.open(u:St w0 A (eZ K Φ p room t::R) w):∃E B rg pl es,(∀w,K w->dD (λ_=>True) w (ir B) t.names)/\
  St w0 A (bW p (BV E B rg pl t.fault)::jr E room t.buf::bE rg t.dY::bE pl (Pr es)::dZ (λw=>EF K w es t.cJ/\Φ w)::R) w:=by
 obtain⟨E,u⟩:=u.eA;obtain⟨B,u⟩:=u.eA;obtain⟨rg,u⟩:=u.eA;obtain⟨pl,u⟩:=u.eA;obtain⟨es,u⟩:=u.eA;obtain⟨G,u⟩:=u.mK
 exact⟨E,B,rg,pl,es,G,tD u⟩
theorem eZ.shut{B:Nat}{u:SV}{rg pl:Value}{es:PE}(G:∀w,K w->dD (λ_=>True) w (ir u) t.names)
  (E:St w0 A (bW p (BV B u rg pl t.fault)::jr B room t.buf::bE rg t.dY::bE pl (Pr es)::dZ (λw=>EF K w es t.cJ/\Φ w)::R) w):St w0 A (eZ K Φ p room t::R) w:=
 St.eB B (St.eB u (St.eB rg (St.eB pl (St.eB es (St.oW G (tE E))))))
theorem eZ.mono(u:St w0 A (eZ K Φ p room t::R) w)(h:∀w,Φ w->Ψ w):St w0 A (eZ K Ψ p room t::R) w:=by
 obtain⟨I,G,rg,pl,es,E,u⟩:=eZ.open u
 have h1:=u.p4.dF (Ψ:=λw=>EF K w es t.cJ/\Ψ w) λw B=>⟨B.1,h w B.2⟩
 exact eZ.shut E h1.p4.p4.p4.p4
theorem eZ.now(u:St w0 A (eZ K Φ p room t::R) w):Φ w:=by
 obtain⟨G,B,rg,pl,es,E,u⟩:=eZ.open u
 exact u.p4.dZ.2
theorem eZ.rd(h:Has (eZ K Φ p room t) w):∃E B rg pl es,(∀w,K w->dD (λ_=>True) w (ir B) t.names)/\nh w p (BV E B rg pl t.fault)/\uL w E room t.buf/\dD (λ_=>True) w rg t.dY/\dD (λ_=>True) w pl (Pr es)/\EF K w es t.cJ/\Φ w:=by
 obtain⟨F,u⟩:=h.st
 obtain⟨E,B,rg,pl,es,G,u⟩:=eZ.open u
 exact⟨E,B,rg,pl,es,G,u.hb,EB u.p1,u.p2.dW,u.p3.dW,u.p4.dZ.1,u.p4.dZ.2⟩
theorem jn{E:bF}{x:bR}(h:mi w E x):∃u B:SV,E=⟨x.kind,x.eN,x.name,u,B,x.n,x.body,x.eG,x.at_⟩/\dD (λ_=>True) w (ir u) x.e/\dD (λ_=>True) w (ir B) x.f:=by
 obtain⟨u,B,h1,h2,h3⟩:=h
 exact⟨u,B,h1,DL.flat h2,DL.flat h3⟩
theorem fT.cut{rows:List bF}{l:List bR}{i j:Nat}(h:fT rows l w):fT ((rows.take j).drop i) ((l.take j).drop i) w:=(h.take j).drop i
theorem arJ{x:bR}{a b r:Bk}(h:(Bk.cons x a b r).str){j:Int}(u:j=1+x.body):(((Bk.cons x a b r).flat.take j.toNat).drop (1:Int).toNat)=a.flat:=by
 obtain⟨E,_⟩:=h
 have B:=a.dC
 rw[vY _ (a:=1) (c:=(1:Int).toNat) (n:=a.flat.length) cO rfl]
 show(a.flat++(b.flat++r.flat)).take _=_
 grind
theorem arK{x:bR}{a b r:Bk}(h:(Bk.cons x a b r).str){i j:Int}(hi:i=1+x.body)(u:j=1+x.body+x.eG):(((Bk.cons x a b r).flat.take j.toNat).drop i.toNat)=b.flat:=by
 obtain⟨G,B,_⟩:=h
 have E:=a.dC
 have lb:=b.dC
 rw[vY _ (a:=1+a.flat.length) (n:=b.flat.length) cO cO,<- List.drop_drop]
 show((a.flat++(b.flat++r.flat)).drop _).take _=_
 grind
theorem rR.cut{sv u:SV}{rows:List bF}{l:List bR}{i j:Nat}(h:rR K sv rows l w)(hc:∀w' (ys:List bF),dD (λ_=>True) w' (ir sv) ys->dD (λ_=>True) w' (ir u) ((ys.take j).drop i)):rR K u ((rows.take j).drop i) ((l.take j).drop i) w:=
 ⟨λw' B=>fT.cut (h.1 w' B),λB=>hc _ _ (h.2 B)⟩
theorem rR.Yp{sv u:SV}{rows:List bF}{l:List bR}{i:Nat}(h:rR K sv rows l w)(hc:∀w' (ys:List bF),dD (λ_=>True) w' (ir sv) ys->dD (λ_=>True) w' (ir u) (ys.drop i)):rR K u (rows.drop i) (l.drop i) w:=
 ⟨λw' B=>(h.1 w' B).drop i,λB=>hc _ _ (h.2 B)⟩
theorem EF.top{es:PE}{q:Bk×Bool}{p:PD}(h:EF K w es (q::p)):∃sv rows u,es=(⟨sv,q.2⟩,rows)::u/\rR K sv rows q.1.flat w/\EF K w u p:=by
 match es,h with
 | [],h=>exact h.elim
 | e::es,h=>
  obtain⟨⟨sv,B⟩,rows⟩:=e
  obtain⟨⟨h1,h2⟩,h3⟩:=h
  grind
theorem EF.cons{sv:SV}{e:Bool}{rows:List bF}{es:PE}{q:Bk×Bool}{p:PD}(h:EF K w ((⟨sv,e⟩,rows)::es) (q::p)):rR K sv rows q.1.flat w/\EF K w es p:=⟨h.1.2,h.2⟩
theorem GD{e:yj×List bF}{es:PE}:(Pr (e::es))[es.length]?=some e.1:=by grind[Pr]
theorem T4{e:yj×List bF}{es:PE}:(Pr (e::es)).take es.length=Pr es:=by grind[Pr]
end
theorem C116(K Φ:hM)(p:Nat)(room:Int)(t:kc)(F:Nat->Prop)(lv:SV)(rows:List bF)(b:Bk)(e:Bool)(w:World)(I:(eZ K Φ p room t).p w F)(G:∀w',gJ F w w'->K w')(E:∀w,Φ w->rR K lv rows b.flat w)(Z:t.cJ.length<=100000) :
    CR 116 [.pointer (some ⟨p,0,none⟩),ir lv,.bool e] w (λv w'=>v=.tuple #[]/\nd F (eZ K Φ p room {t with cJ:=jz b e t.cJ}) w w'):=by
 have u:=St.begin I;refine fj Tryz.func116 ?_;obtain⟨J,W⟩:=E _ (eZ.now u);have hlen:=(J _ (G _ u.aG)).1;refine aK fB (W (G _ u.aG)) (cQ (aC (λc=>?_) λc=>?_));rotate_left
 .have hb:b=.nil:=by
   cases b with
   | nil=>rfl
   | cons y a B r=>simp[Bk.flat]at hlen;omega
  subst hb;exact⟨rfl,u.mut⟩
 obtain⟨y,a,B,r,rfl⟩:=Bk.Ev (t:=b) cO;obtain⟨bp,nv,rg,pl,es,O,u⟩:=eZ.open u;have Y:=u.p4.dZ.1.len;refine aE (aA jV (aB sI u.hb rfl (pop (Rk lv.a lv.n lv.cap e) (aV ([(⟨lv,e⟩:yj)]) u u9 rfl rfl (dQ rfl) λU _ u=>?_))));have V:=u.dW;refine bI u.p4 u9 V (by rw[r9];simp;omega) ee (λM _ u=>have u:=u.p1.drop;aE (aA jV (aT u.p1 sI (dQ rfl) u.dW.one λ_ u=>?_)));have u:=u.p4.dF (Ψ:=λw=>EF K w ((⟨lv,e⟩,rows)::es) ((.cons y a B r,e)::t.cJ)/\Φ w) (λw h=>⟨⟨⟨rfl,E w h.2⟩,h.1⟩,h.2⟩)
 have u:=u.p2;rw[<- aaP (⟨lv,e⟩,rows) es]at u;have u:=eZ.shut (Φ:=Φ) (t:={t with cJ:=(.cons y a B r,e)::t.cJ}) O u.p1.p1.p4.p4.p4;exact⟨rfl,u.mut⟩
def C164(K Φ:hM)(p:Nat)(room:Int)(t:kc)(F:Nat->Prop)(y:bR)(a b r:Bk)(e:Bool)(E:PD)(w:World)(hF:(eZ K Φ p room t).p w F)(hK:∀w',gJ F w w'->K w')(M:t.cJ=(.cons y a b r,e)::E)(jd:(Bk.cons y a b r).str)(oD:t.cJ.length<=100000) :
   CR 164 [.pointer (some ⟨p,0,none⟩)] w (λv w'=>v=.tuple #[]/\nd F (eZ K Φ p room {t with cJ:=gO t.cJ}) w w'):=by
 have W:gO t.cJ=jz r false E:=by rw[M];rfl
 have Y:E.length<=100000:=dI
 have u:=St.begin hF;refine pj Tryz.func164 (pl:=azQ) ?_;obtain⟨bp,nv,rg,pl,es,hk,u⟩:=eZ.open u;have B:=u.p4.dZ.1;rw[M]at B;obtain⟨sv,rows,O,rfl,⟨zT,DX⟩,_⟩:=B.top;have MA:=B.len;rw[oi,oi]at MA;have Q5:=zT _ (hK _ u.aG);have HF:=Q5.1;have uD:=(Bk.cons y a b r).dC
 change rows.length=(Bk.cons y a b r).flat.length at HF
 obtain⟨Ly,hb2,hb3,hb4,_⟩:=id jd;simp only[Bk.len]at uD;obtain⟨t0,V⟩:∃t0,rows[(0:Int).toNat]?=some t0:=⟨_,la (by simp;omega)⟩;obtain⟨ge,gf,rfl,_,_⟩:=jn (Q5.2 0 _ y V rfl);refine aE (aA jV (aB sI u.hb rfl (aK u9 u.p3.dW ?_)));rw[r9,oi];refine ft cO ?_;rw[show((O.length+1:Nat):Int)-1=(O.length:Int)from cO];refine aE (aA jV (aB sI u.hb rfl (aQ u9 u.p3.dW cO (by rw[pd];exact GD) λq hq=>bX sv Mr hq rfl rfl λq2 Lz=>aD jW Lz (aE (aA jV (aB sI u.hb rfl (have u:=u.p3;DF u9 u cO (by rw[r9,oi];omega) λs25 u=>?_)))))))
 rw[pd,T4]at u;refine aE (aA jV (aT u.p1 sI (dQ rfl) u.dW.one λ_ u=>?_));have u:=u.drew.p4;rw[M]at u;have u:=u.dF (Ψ:=λw=>EF K w O E/\(Φ w/\rR K sv rows (Bk.cons y a b r).flat w)) (λ_ h=>⟨h.1.2,h.2,h.1.1.2⟩);have I:=u.dZ.2.2.2 (hK _ u.aG);have u:=eZ.shut (Φ:=λw=>Φ w/\rR K sv rows (Bk.cons y a b r).flat w) (t:={t with cJ:=E}) hk u.p2.p4.p4.p4;refine aQ fB I cO V (λq3 Z=>bX y.body jh Z rfl rfl λq4 J=>aD bL J (aO cO (aQ fB I cO V λq5 hq5=>bX y.eG iQ hq5 rfl rfl λq6 U=>aD bL U (aO cO (GC fB I cO cO λs40 G=>?_)))))
 obtain⟨azW,rfl⟩:=(G _ _ I).fN;refine bG N6 u (H':=λ_=>eZ K (λw=>Φ w/\rR K sv rows (Bk.cons y a b r).flat w) p room {t with cJ:=jz r false E}) (Φ:=λ_ _=>True) (λF2 et ea=>?_) ?_
 .refine(C116 K _ p room {t with cJ:=E} F2 azW (rows.drop (1+y.body+y.eG).toNat) r false _ et (λw' hc=>hK w' (ea w' hc).aG) (λw h=>?_) Y).mono λ_ _ r=>r.mono λ_ _ h=>⟨trivial,h.2⟩;have:=h.2.Yp G;rw[Bk.akd jd rfl]at this;exact this
 rintro _ _ _ u;rw[<- W]at u;exact⟨rfl,(eZ.mono u λ_ h=>h.1).mut⟩
theorem C137(K:hM)(p:Nat)(t:kc)(bp:Nat)(nv:SV)(rg pl:Value)(es:PE)(φ:bR->Prop)(w:World)(tF:nh w p (BV bp nv rg pl t.fault))(U:dD (λ_=>True) w pl (Pr es))(KM:EF K w es t.cJ)
   (hw:∀w',Ext w w'->K w') (B:GB φ t.cJ) (hl:t.cJ.length<=100000):CR 137 [.pointer (some ⟨p,0,none⟩)] w (λv w'=>Ext w w'/\((pM t.cJ=none/\v=.tuple #[ir (⟨0,⟨#[]⟩,⟨#[]⟩,bY,bY,0,0,0,0⟩:bF),.slice none 0 0,.slice none 0 0,.bool false])\/
    ∃x a b xv av bv ra rb,pM t.cJ=some (x,a,b)/\v=.tuple #[ir (xv:bF),ir (av:SV),ir (bv:SV),.bool true]/\(∀w',K w'->mi w' xv x)/\∀J,EF K J es t.cJ->rR K av ra a.flat J/\rR K bv rb b.flat J)):=by
 have W:=tF.cell (o:=3) rfl;have M:=KM.len;have u:=St.start w;refine afK _ _ _ ?_;unfold S137;refine aN u jD (λb2 _ u=>have u:=u.enc (cs':=j0 (⟨0,⟨#[]⟩,⟨#[]⟩,bY,bY,0,0,0,0⟩:bF)) rfl;aE (aA jV (bN sI (W.ext u.aG) (aK u9 (U.ext u.aG) ?_))));rw[r9];refine aH (aC (λc=>?_) λc=>?_)
 .have Pp:t.cJ=[]:=s4.1 cO;exact pop (v:=ir (⟨0,⟨#[]⟩,⟨#[]⟩,bY,bY,0,0,0,0⟩:bF)) (by kernel_rfl) (aJ (x:=(⟨0,⟨#[]⟩,⟨#[]⟩,bY,bY,0,0,0,0⟩:bF)) u eU rfl rfl λ_ u=>aD eU u.At ⟨u.drop.aG,.inl ⟨by rw[Pp];rfl,rfl⟩⟩)
 obtain⟨cJ,asV⟩:∃q,q=t.cJ:=⟨_,rfl⟩;rw[<- asV]at KM B M hl |-;cases cJ with
 | nil=>exact absurd (show((es.length:Nat):Int)=0 by have h0:es.length=0:=M;omega) c
 | cons q p'=>
 obtain⟨q1,e⟩:=q;cases q1 with
 | nil=>exact absurd rfl (B.ne _ (oj ..))
 | cons y a b r=>
 have O:=B.st _ (oj ..);obtain⟨sv,rows,VT,rfl,⟨zT,DX⟩,_⟩:=KM.top;have Q5:=zT _ (hw _ (Ext.refl _));have HF:=Q5.1;have uD:=(Bk.cons y a b r).dC
 change rows.length=(Bk.cons y a b r).flat.length at HF
 obtain⟨Ly,hb2,hb3,hb4,_⟩:=id O;simp only[Bk.len]at uD;rw[oi]at M c;rw[oi]at M hl;obtain⟨t0,Y⟩:∃t0,rows[(0:Int).toNat]?=some t0:=⟨_,la (by simp;omega)⟩;obtain⟨ge,gf,rfl,_,_⟩:=jn (Q5.2 0 _ y Y rfl);have G:=DX (hw _ (Ext.refl _));have u:=u.drew;refine aE (aA jV (bN sI (W.ext u.aG) (aE (aA jV (bN sI (W.ext u.aG) (aK u9 (U.ext u.aG) ?_))))));rw[r9,oi];refine ft cO ?_;rw[show((VT.length+1:Nat):Int)-1=(VT.length:Int)from cO];refine aQ u9 (U.ext u.aG) cO (by rw[pd];exact GD) (λq hq=>bX sv Mr hq rfl rfl λq2 Lz=>aD jW Lz (aQ fB (G.ext u.aG) cO Y λq3 Z=>aD eU Z (aN u jD λb7 _ u=>aJ (x:=(⟨y.kind,y.eN,y.name,ge,gf,y.n,y.body,y.eG,y.at_⟩:bF)) u eU rfl rfl λ_ u=>aA jh (aB (v:=hZ y.body) bL u.hb rfl (aO cO (aA iQ (aB (v:=hZ y.eG) bL u.hb rfl (aO cO ?_))))))))
 have u:=u.drew;refine aD eU u.At (N9 fB (G.ext u.aG) cO cO cO λs44 I=>?_);obtain⟨V,rfl⟩:=(I _ _ G).fN;refine N9 fB (G.ext u.aG) cO cO cO (λs49 E=>?_);obtain⟨azZ,rfl⟩:=(E _ _ G).fN;refine aJ (x:=(⟨y.kind,y.eN,y.name,ge,gf,y.n,y.body,y.eG,y.at_⟩:bF)) u.p1 eU rfl rfl (λ_ u=>aD eU u.At ?_);refine⟨u.drop.drop.aG,.inr ⟨y,a,b,_,V,azZ,(rows.take (1+y.body).toNat).drop (1:Int).toNat,(rows.take (1+y.body+y.eG).toNat).drop (1+y.body).toNat,rfl,rfl,λw' hk=>(zT w' hk).2 0 _ y Y rfl,λJ h2=>?_⟩⟩;have h3:=h2.cons.1
 refine⟨?_,?_⟩
 .have:=h3.cut I;rw[arJ O rfl]at this;exact this
 have:=h3.cut E;rw[arK O rfl rfl]at this;exact this
theorem C197(K Φ:hM)(p:Nat)(room:Int)(t:kc)(F:Nat->Prop)(w:World)(Z:(eZ K Φ p room t).p w F)(hK:∀w',gJ F w w'->K w')(oD:t.cJ.length<=100000) :
   CR 197 [.pointer (some ⟨p,0,none⟩)] w (λv w'=>v=.tuple #[]/\nd F (eZ K Φ p room {t with cJ:=kL t.cJ}) w w'):=by
 have u:=St.begin Z;refine afL _ _ _ ?_;unfold S197;refine⟨λm ev O=>∃(E:Bool) (B:PD),ev=.bool E/\m=B.length+(if E then 0 else 1)/\B.length<=100000/\kL t.cJ=(if E=true then B else kL B)/\St w F [eZ K Φ p room {t with cJ:=B}] O,⟨_,false,t.cJ,rfl,rfl,oD,rfl,u⟩,?_⟩;rintro m _ O ⟨E,B,rfl,rfl,W,G,u⟩ _;obtain⟨bp,nv,rg,pl,es,V,u⟩:=eZ.open u;have I:=u.p4.dZ.1;have U:=I.len
 change es.length=B.length at U
 refine⟨λjv w'=>jv=.bool (!E&&decide (0<B.length))/\w'=O,?_,?_⟩
 .refine bT ?_;cases E with
  | true=>exact fx ⟨rfl,rfl⟩
  | false=>
   refine hG (aE (aA jV (aB sI u.hb rfl (aK u9 u.p3.dW ?_))));rw[r9];refine cQ ?_;exact⟨vb (by rw[P0,Av];exact ga.2 cO),rfl⟩
 rintro _ _ ⟨rfl,rfl⟩ _;refine bD (λc=>?_) (λc=>?_);rotate_left
 .have hd:kL t.cJ=B:=by
   rw[G];cases E with
   | true=>rfl
   | false=>
    have:B=[]:=s4.1 (by have:=g8 (by simpa only[P0,Av]using c);omega);rw[this];rfl
  rw[hd];exact⟨rfl,(eZ.shut (t:={t with cJ:=B}) V u).mut⟩
 rw[Bool.and_eq_true,Bool.not_eq_true',decide_eq_true_eq]at c;obtain⟨rfl,Y⟩:=c;cases B with
 | nil=>simp at Y
 | cons q J=>
 obtain⟨q1,e⟩:=q;obtain⟨sv,rows,M,rfl,_,_⟩:=I.top;rw[oi,oi]at U;rw[oi]at W;refine aE (aA jV (aB sI u.hb rfl (aK u9 u.p3.dW ?_)));rw[r9,oi];refine ft cO ?_;rw[show((M.length+1:Nat):Int)-1=(M.length:Int)from cO];refine aE (aA jV (aB sI u.hb rfl (aQ u9 u.p3.dW cO (by rw[pd];exact GD) λq hq=>bX e X1 hq rfl rfl λq2 Lz=>aD A6 Lz (aE (aA jV (aB sI u.hb rfl (have u:=u.p3;DF u9 u cO (by rw[r9,oi];omega) λs25 u=>?_)))))))
 rw[pd,T4]at u;refine aE (aA jV (aT u.p1 sI (dQ rfl) u.dW.one λ_ u=>have u:=u.p4.dF (Ψ:=λw=>EF K w M J/\Φ w) (λ_ h=>⟨h.1.2,h.2⟩);have u:=eZ.shut (Φ:=Φ) (t:={t with cJ:=J}) V u.p2.p4.p4.p4;⟨_,?_,e,J,rfl,rfl,cO,?_,u⟩))
 .show J.length+(if e=true then 0 else 1)<J.length+1+1
  split<;>omega
 rw[G];rfl
def C161(K Φ:hM)(p:Nat)(room:Int)(t:kc)(F:Nat->Prop)(lv:Value)(xs:List cC)(w:World)(J:(eZ K Φ p room t).p w F)(O:∀w',gJ F w w'->K w')(G:dD (λ_=>True) w lv xs)(U:xs.length<=1048576)(M:t.names.length<=1048576) :
   CR 161 [.pointer (some ⟨p,0,none⟩),lv] w (λv w'=>v=.tuple #[hZ (eR t xs).1,.bool (eR t xs).2]/\nd F (eZ K Φ p room {t with fault:=if (eR t xs).2=true then t.fault else 2}) w w'):=by
 have u:=St.begin J;refine afM _ _ _ _ ?_;unfold S161;refine aK il G (aH (aC (λc=>?_) λc=>?_))
 .have B:eR t xs=(0,true):=by unfold eR;rw[ew cO]
  rw[B];exact⟨rfl,u.mut⟩
 have B:eR t xs=((qw t.names t.dY xs).1,decide ((qw t.names t.dY xs).2=0)):=by unfold eR;rw[ej cO]
 obtain⟨V,W,rg,pl,es,E,u⟩:=eZ.open u;have u:=u.drew;refine aE (aA Ba (aB jq u.hb rfl (aE (aA Bb (aB ey u.hb rfl (aW ahX u (C143 _ _ _ xs t.names t.dY _ (G.ext (Ext.drew w)) (E _ (O _ u.aG)) u.p2.dW U M) λ_ Y u=>aM rfl (aM rfl ⟨λw'=>St w F [eZ K Φ p room {t with fault:=if (eR t xs).2=true then t.fault else 2}] w',bQ (aC (λI=>?_) λI=>?_),?_⟩)))))))
 .refine aE (aA xz (aT u bL (dQ rfl) rfl λ_ u=>?_));have ht:{t with fault:=2}={t with fault:=if (eR t xs).2=true then t.fault else 2}:=by rw[B];dsimp only;rw[fV I];rfl
  rw[<- ht];exact eZ.shut (t:={t with fault:=2}) E u
 .have ht:t={t with fault:=if (eR t xs).2=true then t.fault else 2}:=by rw[B];dsimp only;rw[ez cO];rfl
  rw[<- ht];exact eZ.shut E u
 intro _ u _;exact aH ⟨by rw[B],u.mut⟩
def eZ.ald{w w0:World}{A:Nat->Prop}{R:List HP}{p:Nat}{K Φ Ψ:hM}{room:Int}{t:kc}(u:St w0 A (dZ Ψ::eZ K Φ p room t::R) w):St w0 A (eZ K (λw=>Φ w/\Ψ w) p room t::R) w:=by
 obtain⟨G,E,rg,pl,es,B,u⟩:=eZ.open u.p1
 have h1:=u.p5.p5.gv.dF (Ψ:=λw=>EF K w es t.cJ/\Φ w/\Ψ w) λw h=>⟨h.1.1,h.1.2,h.2⟩
 exact eZ.shut B h1.p4.p4.p4.p4
theorem fT.cons{w:World}{t:bF}{x:bR}{ts:List bF}{xs:List bR}(h:mi w t x)(u:fT ts xs w):fT (t::ts) (x::xs) w:=by
 refine⟨by simp[u.1],λi t' B h1 h2=>?_⟩
 cases i with
 | zero=>simp at h1 h2;subst h1 h2;exact h
 | succ i=>exact u.2 i t' B (by simpa using h1) (by simpa using h2)
theorem Rl(x:bR)(a:Bk):(Bk.cons x a .nil .nil).flat=x::a.flat:=by simp[Bk.flat]
theorem C196(K Φ:hM)(p:Nat)(room:Int)(t:kc)(F:Nat->Prop)(x:bR)(xv:bF)(Z:SV)(V:List bF)(a b r:Bk)(e:Bool)(U:PD)(w:World)(hF:(eZ K Φ p room t).p w F)(I:∀w',gJ F w w'->K w')(Y:t.cJ=(.cons x a b r,e)::U)(jd:(Bk.cons x a b r).str)(oD:t.cJ.length<=90000)
   (AO:∀w,K w->mi w xv x) (hΦ:∀w,Φ w->rR K Z V a.flat w) (hn:0<=x.n/\x.n<=1000) :
   CR 196 [.pointer (some ⟨p,0,none⟩),ir xv,ir Z] w (λv w'=>v=.tuple #[]/\nd F (eZ K Φ p room {t with cJ:=mX x a t.cJ}) w w'):=by
 have u:=St.begin hF;obtain⟨E,B,rfl,_,_⟩:=jn (AO _ (I _ u.aG));have Vl:a.flat.length<=40:=by rw[Bk.dC];exact jd.2.2.1
 have hppl:(gO t.cJ).length<=90001:=by
  rw[Y];show(jz r false U).length<=_;rw[Y,oi]at oD;cases r with
  | nil=>show U.length<=_;omega
  | cons _ _ _ _=>show U.length+1<=_;omega
 refine fj Tryz.func196 ?_;refine cM (x:=(⟨x.kind,x.eN,x.name,E,B,x.n,x.body,x.eG,x.at_⟩:bF)) u (λb4 _ u=>bG N7 u.p1 (H':=λ_=>eZ K (Φ) p room {t with cJ:=gO t.cJ}) (Φ:=λ_ _=>True) (λO M J=>?_) ?_)
 .exact(C164 K _ p room t O x a b r e U _ M (λw' hc=>I w' (J w' hc).aG) Y jd cO).mono λ_ _ r=>r.mono λ_ _ h=>⟨trivial,h.2⟩
 rintro _ _ _ u;refine aA jX (aB (v:=hZ x.n) bL u.p1.hb rfl (aH (aC (λc=>?_) λc=>?_)))
 .rw[show mX x a t.cJ=gO t.cJ from by unfold mX;rw[ew c]];exact⟨rfl,u.p1.drop.mut⟩
 rw[show mX x a t.cJ=jz a false ((.cons {x with n:=x.n-1} a .nil .nil,true)::gO t.cJ)from by unfold mX;rw[ej c]];refine aD eU u.p1.At (aV ([⟨x.kind,x.eN,x.name,E,B,x.n,x.body,x.eG,x.at_⟩]:List bF) u fB rfl rfl (dQ rfl) λs13 _ u=>?_);have Ps:=hΦ _ (eZ.now u.p1);have hral:=(Ps.1 _ (I _ u.aG)).1;refine bI u fB (Ps.2 (I _ u.aG)) (by simp;omega) ee (λs15 _ u=>dT u fB cO ei λq17 W=>mL jX W λq18 h18=>nY (x.n:Int) u bL h18 (x:=(⟨x.kind,x.eN,x.name,E,B,x.n,x.body,x.eG,x.at_⟩:bF)) rfl rfl (ft cO (dT u fB cO ei λq21 h21=>mL jX h21 λq22 h22=>Yl (x:=(⟨x.kind,x.eN,x.name,E,B,x.n,x.body,x.eG,x.at_⟩:bF)) (⟨x.kind,x.eN,x.name,E,B,x.n-1,x.body,x.eG,x.at_⟩:bF) (x.n-1:Int) u bL h22 rfl ee rfl λ_ u=>?_)))
 obtain⟨G,rfl⟩:=u.dW.fN;have u:=eZ.ald u.freeze
 have ajE:∀w',K w'->fT (((⟨x.kind,x.eN,x.name,E,B,x.n,x.body,x.eG,x.at_⟩:bF)::V).set (0:Int).toNat (⟨x.kind,x.eN,x.name,E,B,x.n-1,x.body,x.eG,x.at_⟩:bF)) (Bk.cons {x with n:=x.n-1} a .nil .nil).flat w':=λw' hw=>by
  rw[Rl];obtain⟨_,_,h4,h5,h6⟩:=AO w' hw;cases h4
  exact fT.cons ⟨E,B,rfl,h5,h6⟩ (Ps.1 w' hw)
 refine bG N6 u (H':=λ_=>eZ K (λw=>Φ w/\dD (λ_=>True) w (ir G) (([(⟨x.kind,x.eN,x.name,E,B,x.n,x.body,x.eG,x.at_⟩:bF)]++V).set (0:Int).toNat (⟨x.kind,x.eN,x.name,E,B,x.n-1,x.body,x.eG,x.at_⟩:bF))) p room { {t with cJ:=gO t.cJ}with cJ:=jz (Bk.cons {x with n:=x.n-1} a .nil .nil) true ({t with cJ:=gO t.cJ}).cJ}) (Φ:=λ_ _=>True) (λO M J=>?_) ?_
 .exact(C116 K _ p room ({t with cJ:=gO t.cJ}) O G _ (Bk.cons {x with n:=x.n-1} a .nil .nil) true _ M (λw' hc=>I w' (J w' hc).aG) (λ_ h=>⟨ajE,λ_=>h.2⟩) (by show(gO t.cJ).length<=_;omega)).mono λ_ _ r=>r.mono λ_ _ h=>⟨trivial,h.2⟩
 rintro _ _ _ u;refine bG N6 u (H':=λ_=>eZ K (λw=>Φ w/\dD (λ_=>True) w (ir G) (([(⟨x.kind,x.eN,x.name,E,B,x.n,x.body,x.eG,x.at_⟩:bF)]++V).set (0:Int).toNat (⟨x.kind,x.eN,x.name,E,B,x.n-1,x.body,x.eG,x.at_⟩:bF))) p room { {t with cJ:=(.cons {x with n:=x.n-1} a .nil .nil,true)::gO t.cJ}with cJ:=jz a false ({t with cJ:=(.cons {x with n:=x.n-1} a .nil .nil,true)::gO t.cJ}).cJ}) (Φ:=λ_ _=>True) (λO M J=>?_) ?_
 .exact(C116 K _ p room ({t with cJ:=(.cons {x with n:=x.n-1} a .nil .nil,true)::gO t.cJ}) O Z V a false _ M (λw' hc=>I w' (J w' hc).aG) (λw h=>hΦ w h.1) (by show(gO t.cJ).length+1<=_;omega)).mono λ_ _ r=>r.mono λ_ _ h=>⟨trivial,h.2⟩
 rintro _ _ _ u;exact⟨rfl,(eZ.mono u.p1.drop λ_ h=>h.1).mut⟩
def C117(K:hM)(p:Nat)(room:Int)(t tR:kc)(n:Nat)(cs ls:List ByteArray)(F:Nat->Prop)(w:World)(hF:(sd K p room t).p w F)(V:∀w',gJ F w w'->K w')(j7:yW cs ls t)(hg:tX n t=some tR) :
   CR 117 [.pointer (some ⟨p,0,none⟩)] w (λv w'=>v=.tuple #[]/\nd F (sd K p room tR) w w'):=by
 have u:=St.begin hF;refine afN _ _ _ ?_;unfold S117;refine⟨λmm w'=>∃B:kc,tX mm B=some tR/\yW cs ls B/\St w F [sd K p room B] w',⟨n,t,hg,j7,u⟩,?_⟩;rintro mm _ ⟨B,Cs,W,u⟩ _;obtain⟨k,rfl⟩:=IV Cs;have oD:=ED W.p;have D6:=W.cl;have hnb:=W.nb;have HF:=W.rl;obtain⟨bp,nv,rg,pl,es,Y,u⟩:=eZ.open u;refine dO aaO (C137 K p B bp nv rg pl es _ _ u.hb u.p3.dW u.p4.dZ.1 (λ_ e=>V _ (u.aG.then e)) W.p cO) ?_;rintro v _ ⟨he,hv⟩;have u:=u.ext he
 rcases hv with⟨eO,rfl⟩|⟨x,a,b,xv,E,G,I,J,BW,rfl,AO,hab⟩
 .refine aM rfl (aM rfl (aM rfl (aM rfl (aN u jD λb2 w3 u=>aJ (x:=(⟨0,⟨#[]⟩,⟨#[]⟩,bY,bY,0,0,0,0⟩:bF)) u eU rfl rfl λw4 u=>bT (hG ?_)))));rw[pO Cs (aaJ eO)];exact⟨rfl,(eZ.shut Y u.drop).mut⟩
 obtain⟨ge,Z,rfl,_,_⟩:=jn (AO _ (V _ u.aG))
 have Rm:∀w,K w->dD (λ_=>True) w (ir ge) x.e/\dD (λ_=>True) w (ir Z) x.f:=λw hw=>by
  obtain⟨_,_,h4,h5,h6⟩:=jn (AO w hw);cases h4
  exact⟨h5,h6⟩
 obtain⟨hx,sa,sb,aa,ab,Ly,hb2,Vl,r,e,p',Cn,sr,ar⟩:=W.top BW;have jd:(Bk.cons x a b r).str:=W.p.st _ (by rw[Cn];exact oj ..);have hxe:=hx.e;have u:=u.p4.dF (Ψ:=λw=>EF K w es B.cJ/\(rR K E I a.flat w/\rR K G J b.flat w)) (λw h=>⟨h.1,hab w h.1⟩);have u:=eZ.shut (Φ:=λw=>rR K E I a.flat w/\rR K G J b.flat w) (t:=B) Y u.p4.p4.p4.p4;refine aM rfl (aM rfl (aM rfl (aM rfl (aN u jD λb2 w3 u=>aJ (x:=(⟨x.kind,x.eN,x.name,ge,Z,x.n,x.body,x.eG,x.at_⟩:bF)) u eU rfl rfl λw4 u=>bT (fx (aA jg (aB (v:=ir ge) jC u.hb rfl (bG N8 u.p1 (H':=λ_=>eZ K (λw=>rR K E I a.flat w/\rR K G J b.flat w) p room {B with fault:=if (eR B x.e).2=true then B.fault else 2}) (Φ:=λv _=>v=.tuple #[hZ (eR B x.e).1,.bool (eR B x.e).2]) (λU O M=>?_) ?_))))))))
 .exact C161 K _ p room B U _ x.e _ O (λw' hc=>V w' (M w' hc).aG) (Rm _ (V _ u.aG)).1 cO cO
 rintro _ w5 rfl u;refine aM rfl (aM rfl (bT (bD (λc1=>?_) λc1=>?_)))
 .have h1:(eR B x.e).2=false:=by simpa using c1
  rw[h1]at u;rw[pO Cs (aaK BW h1)];exact⟨rfl,(eZ.mono u.p1.drop λ_ _=>trivial).mut⟩
 have h1:(eR B x.e).2=true:=by simpa using c1
 replace u:St w F [eZ K (λw=>rR K E I a.flat w/\rR K G J b.flat w) p room B,bW b2 (j0 (⟨x.kind,x.eN,x.name,ge,Z,x.n,x.body,x.eG,x.at_⟩:bF))] w5:=by rw[h1]at u;exact u
 refine aA km (aB (v:=ir Z) jC u.p1.hb rfl (bG N8 u (H':=λ_=>eZ K (λw=>rR K E I a.flat w/\rR K G J b.flat w) p room {B with fault:=if (eR B x.f).2=true then B.fault else 2}) (Φ:=λv _=>v=.tuple #[hZ (eR B x.f).1,.bool (eR B x.f).2]) (λU O M=>?_) ?_))
 .exact C161 K _ p room B U _ x.f _ O (λw' hc=>V w' (M w' hc).aG) (Rm _ (V _ u.aG)).2 cO cO
 rintro _ w6 rfl u;refine aM rfl (aM rfl (bT (bD (λc2=>?_) λc2=>?_)))
 .have h2:(eR B x.f).2=false:=by simpa using c2
  rw[h2]at u;rw[pO Cs (aaL BW h2)];exact⟨rfl,(eZ.mono u.p1.drop λ_ _=>trivial).mut⟩
 have h2:(eR B x.f).2=true:=by simpa using c2
 replace u:St w F [eZ K (λw=>rR K E I a.flat w/\rR K G J b.flat w) p room B,bW b2 (j0 (⟨x.kind,x.eN,x.name,ge,Z,x.n,x.body,x.eG,x.at_⟩:bF))] w6:=by rw[h2]at u;exact u
 have hgk:=aaM BW h1 h2
 have wP:∀(t2:kc) (w':World),rj B x a b (eR B x.e).1=(t2,true)->St w F [eZ K (λw=>rR K E I a.flat w/\rR K G J b.flat w) p room t2,bW b2 (j0 (⟨x.kind,x.eN,x.name,ge,Z,x.n,x.body,x.eG,x.at_⟩:bF))] w'->∃m',m'<k+1/\∃B:kc,tX m' B=some tR/\yW cs ls B/\St w F [sd K p room B] w':=λt2 w' h3 h4=>by
  have h5:=hgk.trans h3;obtain⟨h6,h7,_⟩:=EE W;rw[h5]at h6 h7;exact⟨k,MH k,t2,TY Cs h5,h6,eZ.mono h4.p1.drop λ_ _=>trivial⟩
 refine aA dU (aB (v:=hZ x.kind) bL u.p1.hb rfl (aH (aC (λk1=>?_) λk1=>?_)))
 .have hpm:=dS.1 (hx.rg (.inl k1));obtain⟨j,hj,BO,_⟩:=mf hpm;have Cm:=(kB.1 BO).1;obtain⟨bp,nv,rg,pl,es,Y,u⟩:=eZ.open u;have u:=u.drew;refine aE (aA Bb (aB ey u.hb rfl (aE (aA Ba (aB jq u.hb rfl (aA iP (aB (v:=.string x.eN) gK u.p5.hb rfl (aW IB u (C159 _ B.names x.eN _ (Y _ (V _ u.aG)) cO) λ_ he u=>?_))))))));refine⟨aF ey (u.hb.cell rfl),?_⟩;refine dT u.p2 cS cO cO (λq51 h51=>jA (eR B x.e).1 u.p2 bL h51 cO λ_ u=>have u:=eZ.shut (Φ:=λw=>rR K E I a.flat w/\rR K G J b.flat w) (t:=pN B x.eN (eR B x.e).1) Y u.p2.p2;bG N7 u (H':=λ_=>eZ K (λw=>rR K E I a.flat w/\rR K G J b.flat w) p room {pN B x.eN (eR B x.e).1 with cJ:=gO (pN B x.eN (eR B x.e).1).cJ}) (Φ:=λ_ _=>True) (λU O M=>?_) ?_)
  .exact(C164 K _ p room (pN B x.eN (eR B x.e).1) U x a b r e p' _ O (λw' hc=>V w' (M w' hc).aG) Cn jd (by show B.cJ.length<=_;omega)).mono λ_ _ r=>r.mono λ_ _ h=>⟨trivial,h.2⟩
  rintro _ _ _ u;exact wP _ _ (aaI k1) u
 refine aH (aC (λk2=>?_) λk2=>?_)
 .refine bG N7 u (H':=λ_=>eZ K (λw=>rR K E I a.flat w/\rR K G J b.flat w) p room {B with cJ:=gO B.cJ}) (Φ:=λ_ _=>True) (λU O M=>?_) ?_
  .exact(C164 K _ p room B U x a b r e p' _ O (λw' hc=>V w' (M w' hc).aG) Cn jd cO).mono λ_ _ r=>r.mono λ_ _ h=>⟨trivial,h.2⟩
  rintro _ w10 _ u;refine⟨λjv w'=>jv=(if (eR B x.e).1=0 then ir G else ir E)/\w'=w10,?_,?_⟩
  .refine aH ?_;refine aC (λc=>⟨(ew c).symm,rfl⟩) (λc=>⟨(ej c).symm,rfl⟩)
  rintro _ _ ⟨rfl,rfl⟩ _
  have hpq:(gO B.cJ).length<=100000:=by
   have:=ED W.p.pop;have:=Rj Cn;omega
  have e1:(if (eR B x.e).1=0 then ir G else ir E)=ir (if (eR B x.e).1=0 then G else E):=by split<;>rfl
  rw[e1];refine bG N6 u (H':=λ_=>eZ K (λw=>rR K E I a.flat w/\rR K G J b.flat w) p room { {B with cJ:=gO B.cJ}with cJ:=jz (if (eR B x.e).1=0 then b else a) false ({B with cJ:=gO B.cJ}).cJ}) (Φ:=λ_ _=>True) (λU O M=>?_) ?_
  .exact(C116 K _ p room ({B with cJ:=gO B.cJ}) U (if (eR B x.e).1=0 then G else E) (if (eR B x.e).1=0 then J else I) (if (eR B x.e).1=0 then b else a) false _ O (λw' hc=>V w' (M w' hc).aG) (λ_ h=>by split;exact h.2;exact h.1) hpq).mono λ_ _ r=>r.mono λ_ _ h=>⟨trivial,h.2⟩
  rintro _ _ _ u;exact wP _ _ (KJ k2) u
 refine aH (aC (λk3=>?_) λk3=>?_)
 .refine aD eU u.p1.At (bG asP u (H':=λ_=>eZ K (λw=>rR K E I a.flat w/\rR K G J b.flat w) p room {B with cJ:=mX x a B.cJ}) (Φ:=λ_ _=>True) (λU O M=>?_) ?_)
  .exact(C196 K _ p room B U x ⟨x.kind,x.eN,x.name,ge,Z,x.n,x.body,x.eG,x.at_⟩ E I a b r e p' _ O (λw' hc=>V w' (M w' hc).aG) Cn jd cO AO (λ_ h=>h.1) (hx.n k3)).mono λ_ _ r=>r.mono λ_ _ h=>⟨trivial,h.2⟩
  rintro _ _ _ u;exact wP _ _ (T0 k3) u
 refine aH (aC (λk4=>?_) λk4=>?_)
 .refine bG asQ u (H':=λ_=>eZ K (λw=>rR K E I a.flat w/\rR K G J b.flat w) p room {B with cJ:=kL B.cJ}) (Φ:=λ_ _=>True) (λU O M=>?_) ?_
  .exact(C197 K _ p room B U _ O (λw' hc=>V w' (M w' hc).aG) cO).mono λ_ _ r=>r.mono λ_ _ h=>⟨trivial,h.2⟩
  rintro _ _ _ u;exact wP _ _ (T1 k4) u
 refine aH (aC (λk5=>?_) λk5=>?_)
 .refine aH (aC (λc=>?_) λc=>?_)
  .obtain⟨bp,nv,rg,pl,es,Y,u⟩:=eZ.open u;refine aE (aA xz (aT u bL (dQ rfl) rfl λ_ u=>?_));have u:=eZ.shut (Φ:=λw=>rR K E I a.flat w/\rR K G J b.flat w) (t:={B with fault:=1}) Y u;rw[pO Cs (hgk.trans (N4 k5 c))];exact⟨rfl,(eZ.mono u.p1.drop λ_ _=>trivial).mut⟩
  refine bG N7 u (H':=λ_=>eZ K (λw=>rR K E I a.flat w/\rR K G J b.flat w) p room {B with cJ:=gO B.cJ}) (Φ:=λ_ _=>True) (λU O M=>?_) ?_
  .exact(C164 K _ p room B U x a b r e p' _ O (λw' hc=>V w' (M w' hc).aG) Cn jd cO).mono λ_ _ r=>r.mono λ_ _ h=>⟨trivial,h.2⟩
  rintro _ _ _ u;exact wP _ _ (N5 k5 c) u
 rw[pO Cs (hgk.trans (T3 k1 k2 k3 k4 k5))];exact⟨rfl,(eZ.mono u.p1.drop λ_ _=>trivial).mut⟩
variable (w:World) (K:Value->hM)
def az1:dM:=λi=>match i with
 | 8=>(.of [(0,[]),(1,[]),(2,[]),(3,[]),(4,[]),(5,[]),(6,[]),(7,[]),(8,[]),(9,[]),(10,[]),(11,[]),(12,[]),(13,[]),(14,[7]),(15,[]),(16,[]),(17,[]),(18,[]),(19,[])])
 | _=>.nil
def S160(s0 B a E:Value):Prop:=
 ry hH (Ae 193 a) w λb c=>aL 56 c λd e=>nC B λf=>fA 138 f 0 λg=>lA 88 g e λh=>cF 226 [h,E] e λj k=>xT j 0 λl=>xT j 1 λn=>EX (λJ=>
 eX hH (Op.unary .not n) λo=>cV o (nC s0 λp=>fA 96 p 4 λq=>lA 93 q k λs=>cF 227 [s,E] k λt u=>xT t 0 λv=>xT t 1 λ_=>J v (i 1) u) (J l (i 2) k))
 (λI G x=>∀_:Env,
 nC B λy=>fA 138 y 2 λz=>lA 41 z (drew x) λO=>nC B λV=>fA 138 V 1 λY=>lA 91 Y (drew x) λad=>fA 193 b 1 λae=>lA 9 ae (drew x) λZ=>cF 159 [ad,Z] (drew x) λW M=>
 kA 41 z O M (iA 41 O W λU=>sA 3 U I M λaj=>eX hH (mv 56 [(0,G),(2,E),(3,I)].toArray) λak=>sA 56 d ak aj λal=>lA 56 d al λr=>
 K r al))
def az2:dM:=λi=>match i with
 | 6=>(.of [(0,[]),(1,[]),(2,[]),(3,[]),(4,[]),(5,[]),(6,[]),(7,[]),(8,[]),(9,[]),(11,[]),(10,[3]),(12,[]),(13,[])])
 | _=>.nil
theorem afP(G B u E:Value)(h:S160 w K G B u E):CR 160 [G,B,u,E] w K:=
 qj 49 az2 256 [.cell 8 56] Tryz.func160 h
def S163(U B a E:Value):Prop:=
 ry hH (Ae 193 a) w λb c=>aL 56 c λd e=>nC U λf=>fA 96 f 4 λg=>lA 93 g e λh=>cF 227 [h,E] e λj k=>xT j 0 λl=>xT j 1 λ_=>fA 193 b 3 λn=>
 lA 82 n k λo=>cF 161 [B,o] k λp q=>xT p 0 λs=>xT p 1 λ_=>fA 193 b 4 λt=>lA 82 t q λu=>cF 161 [B,u] q λv x=>xT v 0 λy=>xT v 1 λ_=>nC B λz=>
 fA 138 z 2 λO=>lA 41 O (drew x) λM=>nC B λZ=>fA 138 Z 1 λad=>lA 91 ad (drew x) λae=>fA 193 b 1 λaf=>lA 9 af (drew x) λY=>cF 159 [ae,Y] (drew x) λah I=>
 kA 41 O M I (iA 41 M ah λaj=>sA 3 aj l I λG=>bA .neq 3 l s λal=>cV al (eX hH (mv 56 [(0,(i 9)),(2,E),(3,l)].toArray) λam=>sA 56 d am G λJ=>
 lA 56 d J λr=>K r J) (nC U λW=>fA 96 W 4 λap=>lA 93 ap G λaq=>cF 156 [aq,E,y] G λ_ ar=>eX hH (mv 56 [(0,(i 8)),(2,E),(3,l),(4,y)].toArray) λasx=>
 sA 56 d asx ar λV=>lA 56 d V λHt=>K Ht V))
def az3:dM:=λi=>match i with
 | 4=>(.of [(0,[]),(1,[]),(2,[]),(3,[]),(4,[]),(5,[]),(6,[]),(7,[]),(8,[]),(9,[]),(11,[]),(10,[3]),(12,[]),(13,[])])
 | _=>.nil
theorem afQ(G B u E:Value)(h:S163 w K G B u E):CR 163 [G,B,u,E] w K:=
 qj 68 az3 256 [.cell 8 56] Tryz.func163 h
def S91(G M:Value):Prop:=
 aL 56 w λa b=>nC G λc=>fA 96 c 6 λd=>lA 94 d b λe=>iA 94 e M λf=>lA 135 f b λg=>nC g λh=>fA 138 h 4 λj=>lA 3 j b λk=>bB .neq 3 k (i 0) λl=>
 cV l (nC g λn=>fA 138 n 4 λo=>lA 3 o b λp=>cF 158 [G,M,p] b λq s=>sA 56 a q s λt=>lA 56 a t λr=>K r t) (cF 137 [g] b λu v=>xT u 0 λx=>xT u 1 λ_=>
 xT u 2 λ_=>xT u 3 λ_=>aL 193 v λy z=>sA 193 y x z λO=>nC G λab=>fA 96 ab 1 λac=>lA 91 ac (drew O) λad=>fA 193 y 2 λae=>lA 9 ae (drew O) λaf=>
 nC G λag=>fA 96 ag 2 λah=>lA 91 ah (drew O) λai=>fA 193 y 2 λaj=>lA 9 aj (drew O) λak=>cF 159 [ad,af] (drew O) λal V=>kA 91 ah ai V (kA 9 aj ak V (
 cF 159 [ai,ak] V λU W=>nC G λap=>fA 96 ap 0 λaq=>lA 27 aq W λar=>cF 52 [ar,al] W λasx au=>aL 56 au λB E=>xl (λI=>fA 193 y 0 λaw=>lA 3 aw E λJ=>
 bB .eql 3 J (i 2) λay=>cV ay (lA 193 y E λaz=>cF 160 [G,g,az,al] E λa0 a1=>sA 56 B a0 a1 λa2=>I a2) (bB .eql 3 J (i 3) λa3=>cV a3 (fA 193 y 3 λa4=>
 lA 82 a4 E λa5=>cF 161 [g,a5] E λa6 Y=>xT a6 0 λZ=>xT a6 1 λ_=>nC g λa9=>fA 138 a9 0 λba=>lA 88 ba Y λbb=>eX hH (mv 231 [(0,(i 3)),(1,asx),(2,al),(3,Z)].toArray) λbc=>
 cF 162 [bb,bc] Y λ_ bd=>eX hH (mv 56 [(0,(i 3)),(2,al),(3,Z)].toArray) λbe=>sA 56 B be bd λbf=>I bf) (bB .eql 3 J (i 5) λbg=>cV bg (nC g λbh=>
 fA 138 bh 0 λbi=>lA 88 bi E λbj=>eX hH (mv 231 [(0,(i 5)),(1,asx)].toArray) λbk=>cF 162 [bj,bk] E λ_ bl=>eX hH (mv 56 [(0,(i 4)),(2,asx)].toArray) λbm=>
 sA 56 B bm bl λbn=>I bn) (bB .eql 3 J (i 6) λbo=>cV bo (nC g λbp=>fA 138 bp 0 λbq=>lA 88 bq E λbr=>eX hH (mv 231 [(0,(i 6)),(1,asx)].toArray) λbs=>
 cF 162 [br,bs] E λ_ bt=>eX hH (mv 56 [(0,(i 5)),(2,asx)].toArray) λbu=>sA 56 B bu bt λbv=>I bv) (bB .eql 3 J (i 7) λbw=>cV bw (nC g λbx=>
 fA 138 bx 0 λbz=>lA 88 bz E λb0=>eX hH (mv 231 [(0,(i 7))].toArray) λb1=>cF 162 [b0,b1] E λ_ b2=>eX hH (mv 56 [(0,(i 6))].toArray) λb3=>
 sA 56 B b3 b2 λb4=>I b4) (bB .eql 3 J (i 8) λb5=>cV b5 (eX hH (mv 56 [(0,(i 7))].toArray) λb6=>sA 56 B b6 E λb7=>I b7) (bB .eql 3 J (i 4) λb8=>
 cV b8 (lA 193 y E λb9=>cF 163 [G,g,b9,al] E λca cb=>sA 56 B ca cb λcc=>I cc) (bB .eql 3 J (i 9) λcd=>cV cd (nC G λce=>fA 96 ce 5 λcf=>lA 41 cf E λcg=>
 iA 41 cg U λch=>sA 3 ch M E λci=>eX hH (mv 56 [(0,(i 10)),(2,U)].toArray) λcj=>sA 56 B cj ci λck=>I ck) (nC G λcl=>fA 96 cl 5 λcm=>
 lA 41 cm E λcn=>iA 41 cn U λco=>lA 3 co E λcp=>bA .neq 3 cp M λcq=>cV cq (cF 158 [G,M,(i 3)] E λcr cs=>sA 56 a cr cs λct=>lA 56 a ct λHt=>K Ht ct) (
 nC G λcu=>fA 96 cu 5 λcv=>lA 41 cv E λcw=>iA 41 cw U λcx=>sA 3 cx (i (-1)) E λcy=>eX hH (mv 56 [(0,(i 11)),(2,U)].toArray) λcz=>sA 56 B cz cy λc0=>
 I c0)))))))))) (λc1=>∀_:Env,
 fA 56 B 1 λc2=>sA 3 c2 M c1 λc3=>cF 164 [g] c3 λ_ c4=>cF 117 [g] c4 λ_ c5=>lA 56 B c5 λc6=>sA 56 a c6 c5 λc7=>lA 56 a c7 λLX=>K LX c7))))
def P91:dM:=λi=>match i with
 | 5=>(.of [(0,[]),(1,[]),(2,[]),(3,[]),(4,[]),(5,[]),(7,[]),(8,[]),(9,[]),(10,[]),(11,[]),(12,[]),(6,[10,12]),(13,[]),(14,[]),(15,[])])
 | _=>.nil
theorem alh(u B:Value)(h:S91 w K u B):CR 91 [u,B] w K:=
 qj 171 P91 16 [.cell 4 56] Tryz.func91 h
def P90:dM:=λi=>match i with
 | 1=>(.op 0 [] (.op 1 [] (.op 2 [] (.op 3 [] (.op 4 [] (.op 5 [] (.op 6 [] (.op 7 [] (.op 8 [] (.op 9 [] (.op 10 [] (.op 11 [] (.op 12 [] (.alt 13 [] (.of [(14,[]),(15,[]),(16,[]),(17,[3,5,7,10,12]),(18,[]),(19,[])]) (.alt 17 [3,5,7,10,12] (.of [(13,[]),(14,[]),(15,[]),(16,[]),(18,[]),(19,[])]) .stop)))))))))))))))
 | 4=>.run 0 9
 | 8=>.run 0 7
 | _=>.nil
def P56:dM:=λi=>match i with
 | 9=>(.of [(0,[]),(1,[]),(2,[]),(3,[]),(4,[]),(5,[]),(6,[2]),(7,[]),(8,[]),(9,[])])
 | _=>.nil
def P24:dM:=λi=>match i with
 | 1=>.run 0 30
 | _=>.nil
def P68:dM:=λi=>match i with
 | 2=>(.of [(0,[]),(1,[]),(2,[]),(3,[]),(4,[]),(5,[]),(6,[]),(7,[]),(8,[]),(9,[]),(10,[]),(11,[]),(12,[]),(13,[3,7,11]),(14,[])])
 | _=>.nil
def S70(B:Value):Prop:=
 nC B λa=>fA 96 a 0 λb=>lA 27 b w λc=>cF 54 [c] w λd e=>nC B λf=>fA 96 f 0 λg=>fA 27 g 5 λh=>lA 25 h e λj=>lN 25 j λk=>nP (λG I l n=>∀_:Env,
 bA .lss 3 l k λo=>cV o (eQ (λK2=>iA 25 j l λp=>lA 85 p n λq=>aL 85 n λJ r=>sA 85 J q r λs=>fA 85 J 0 λt=>lA 82 t (drew s) λu=>nC B λv=>fA 96 v 1 λx=>
 lA 91 x (drew s) λy=>eX hH (n0 91 y none (some d) none) λz=>cF 72 [B] (drew s) λaa E=>kA 82 t u E (kA 91 x y E (eX hH (n0 41 aa none (some d) none) λac=>
 cF 143 [u,z,ac] E λO M=>xT O 0 λaf=>xT O 1 λZ=>bB .eql 31 Z (i 0) λah=>cV ah (bB .neq 3 af (i 0) λV=>bS 117 1 [(0,V)] M λaj ak=>aP 117 I aj ak λal am=>
 K2 al am) (bS 117 1 [(0,ff)] M λW Y=>aP 117 I W Y λap aq=>K2 ap aq)))) (λU ar=>∀_:Env,
 bB .add 3 l (i 1) λasx=>G U asx ar)) (K I n)) (λG=>G (.slice none 0 0) (i 0) e)
def P70:dM:=λi=>match i with
 | 6=>(.of [(0,[]),(1,[]),(2,[]),(3,[]),(4,[]),(5,[]),(6,[]),(7,[]),(8,[]),(10,[]),(9,[1,5]),(11,[]),(12,[]),(13,[]),(14,[]),(15,[]),(16,[]),(17,[])])
 | _=>.nil
theorem ali(u:Value)(h:S70 w K u):CR 70 [u] w K:=
 qj 51 P70 4 [.tmp 2] Tryz.func70 h
def S12(p0 U:Value):Prop:=
 ry hH (Ae 27 p0) w λp2 a=>lA 27 p2 a λb=>cF 48 [b] a λc d=>xT c 0 λe=>xT c 1 λ_=>bB .neq 31 e (i 0) λf=>cV f (K (.tuple #[(.pointer none),e]) d) (
 cF 49 [U] d λg h=>xT g 0 λ_=>xT g 1 λj=>bB .neq 31 j (i 0) λk=>cV k (K (.tuple #[(.pointer none),j]) h) (lA 27 p2 (drew h) λl=>lA 27 p2 (drew h) λn=>lA 27 p2 (drew h) λo=>
 cF 50 [n] (drew h) λp q=>kA 27 p2 l q (kA 27 p2 o q (cF 51 [o] q λr s=>kA 27 p2 l s (eX hH (mv 96 [(0,l),(1,p),(2,r),(3,U)].toArray) λt=>ry hH (Ae 96 t) s λu v=>
 nC u λx=>fA 96 x 1 λy=>lA 91 y v λz=>lN 91 z λaa=>nP (λI E G B=>∀_:Env,
 bA .lss 3 G aa λad=>cV ad (lA 27 p2 B λae=>cF 52 [ae,G] B λaf Y=>bS 41 1 [(0,af)] Y λah V=>aP 41 E ah V λaj ak=>bB .add 3 G (i 1) λal=>I aj al ak) (
 lA 27 p2 (drew B) λam=>lA 27 p2 (drew B) λJ=>cF 54 [am] (drew B) λW M=>kA 27 p2 J M (cF 55 [J] M λaq ar=>cF 53 [E,W,aq] ar λasx au=>xT asx 0 λav=>
 xT asx 1 λ_=>nC u λZ=>fA 96 Z 4 λax=>sA 93 ax av au λO=>fA 27 p2 3 λaz=>lA 24 az O λa0=>cF 56 [u,a0] O λ_ a1=>K (.tuple #[u,(i 0)]) a1))) λI=>I (.slice none 0 0) (i 0) v)))))
def P12:dM:=λi=>match i with
 | 7=>(.of [(0,[]),(1,[]),(3,[]),(5,[]),(2,[0,3]),(4,[0]),(6,[]),(7,[]),(8,[])])
 | 14=>(.of [(0,[]),(1,[]),(2,[]),(4,[]),(3,[4]),(5,[]),(6,[]),(7,[]),(8,[]),(9,[]),(10,[]),(11,[]),(12,[])])
 | _=>.nil
theorem alj(p0 u:Value)(h:S12 w K p0 u):CR 12 [p0,u] w K:=
 qj 69 P12 48 [.tmp 4,.tmp 5] Tryz.func12 h
def S87(B:Value):Prop:=
 lN 41 B λa=>nP (λu E b c=>∀_:Env,
 bA .lss 3 b a λd=>cV d (iA 41 B b λe=>lA 3 e c λf=>bB .mul 3 E (i 10000) λg=>bA .add 3 g f λh=>bB .add 3 b (i 1) λj=>u h j c) (K E c)) (λu=>u (i 0) (i 0) w)
theorem alk(u:Value)(h:S87 w K u):CR 87 [u] w K:=
 qj 18 (λ_=>.nil) 4 [.tmp 2] Tryz.func87 h
theorem asY:PL 138:=dR Tryz.func138
theorem asZ:PL 67:=dR Tryz.func67
theorem aiE:PL 158:=dR Tryz.func158
theorem as0:PL 160:=dR Tryz.func160
theorem as1:PL 163:=dR Tryz.func163
theorem az4:PL 91:=dR Tryz.func91
theorem az5:PL 90:=dR Tryz.func90
theorem as2:PL 56:=dR Tryz.func56
theorem as3:PL 24:=dR Tryz.func24
theorem az6:PL 88:=dR Tryz.func88
theorem alm:PL 68:=dR Tryz.func68
theorem as4:PL 140:=dR Tryz.func140
theorem aln:PL 72:=dR Tryz.func72
theorem az7:PL 70:=dR Tryz.func70
theorem as5:PL 12:=dR Tryz.func12
theorem az8:PL 87:=dR Tryz.func87
theorem as6:PL 142:=dR Tryz.func142
theorem as7:PL 217:=dR Tryz.func217
end Go.Proofs.YtpdlpabnlkofmaaGreatDoor
namespace Go.Proofs.YtpdlpabnlkofmaaGreatDoor
open Go.Fw
def C7(u:Int)(B:Int):pr hH (mv 50 [(0,hZ u),(1,hZ B)].toArray)=some (.agg [hZ u,hZ B,hZ 0,.slice none 0 0].toArray):=by kernel_rfl
def DG(u:Int)(E:Int)(B:Int):pr hH (mv 50 [(0,hZ u),(1,hZ E),(2,hZ B)].toArray)=some (.agg [hZ u,hZ E,hZ B,.slice none 0 0].toArray):=by kernel_rfl
def VW(u:Int)(B:Option Addr)(E G:Nat):pr hH (mv 50 [(0,hZ u),(3,.slice B E G)].toArray)=some (.agg [hZ u,hZ 0,hZ 0,.slice B E G].toArray):=by kernel_rfl
def KN:pr hH (mv 56 [].toArray)=some (.agg [hZ 0,hZ 0,hZ 0,hZ 0,hZ 0].toArray):=by kernel_rfl
def KO(u:Int):pr hH (mv 56 [(0,hZ u)].toArray)=some (.agg [hZ u,hZ 0,hZ 0,hZ 0,hZ 0].toArray):=by kernel_rfl
def IW(u:Int)(B:Int):pr hH (mv 56 [(0,hZ u),(1,hZ B)].toArray)=some (.agg [hZ u,hZ B,hZ 0,hZ 0,hZ 0].toArray):=by kernel_rfl
def um(u:Int)(E:Int)(B:Int):pr hH (mv 56 [(0,hZ u),(1,hZ E),(2,hZ B)].toArray)=some (.agg [hZ u,hZ E,hZ B,hZ 0,hZ 0].toArray):=by kernel_rfl
def zV(G:Int)(E:Int)(B:Int)(u:Int):pr hH (mv 56 [(0,hZ G),(1,hZ E),(2,hZ B),(3,hZ u)].toArray)=some (.agg [hZ G,hZ E,hZ B,hZ u,hZ 0].toArray):=by kernel_rfl
def o7(u:Int)(B:Int):pr hH (mv 56 [(0,hZ u),(2,hZ B)].toArray)=some (.agg [hZ u,hZ 0,hZ B,hZ 0,hZ 0].toArray):=by kernel_rfl
def mY(u:Int)(B:Int)(E:Int):pr hH (mv 56 [(0,hZ u),(2,hZ B),(3,hZ E)].toArray)=some (.agg [hZ u,hZ 0,hZ B,hZ E,hZ 0].toArray):=by kernel_rfl
def zW(B:Int)(E:Int)(G:Int)(u:Int):pr hH (mv 56 [(0,hZ B),(2,hZ E),(3,hZ G),(4,hZ u)].toArray)=some (.agg [hZ B,hZ 0,hZ E,hZ G,hZ u].toArray):=by kernel_rfl
def IX(u:Int)(B:Int):pr hH (mv 56 [(0,hZ u),(3,hZ B)].toArray)=some (.agg [hZ u,hZ 0,hZ 0,hZ B,hZ 0].toArray):=by kernel_rfl
def HG(Oa:Option Addr)(u G:Nat)(Ob:Option Addr)(I M:Nat)(V:Option Addr)(O E:Nat)(W:Option Addr)(Z Of:Nat)(Og:Option Addr)(Oh Oi:Nat)(Oj:Option Addr)(J B:Nat)(a1:Option Addr)(n1 c1:Nat)(a2:Option Addr)(U c2:Nat)(Y:Int):pr hH (mv 96 [(0,.agg [.slice Oa u G,.slice Ob I M,.slice V O E,.slice W Z Of,.slice Og Oh Oi,.slice Oj J B].toArray),(1,.slice a1 n1 c1),(2,.slice a2 U c2),(3,hZ Y)].toArray)=some (.agg [.slice Oa u G,.slice Ob I M,.slice V O E,.slice W Z Of,.slice Og Oh Oi,.slice Oj J B,.slice a1 n1 c1,.slice a2 U c2,hZ Y,.pointer none,.slice none 0 0,.slice none 0 0,hZ 0,hZ 0,hZ 0].toArray):=by kernel_rfl
def KP(u:Int)(E:Int)(B:Int):pr hH (mv 114 [(0,hZ u),(1,hZ E),(2,hZ B)].toArray)=some (.agg [hZ u,hZ E,hZ B,.bool false,.bool false].toArray):=by kernel_rfl
def KQ(E:Option Addr)(u:Option Addr)(I J:Nat)(G:Option Addr)(B M:Nat):pr hH (mv 138 [(0,.pointer E),(1,.slice u I J),(2,.slice G B M)].toArray)=some (.agg [.pointer E,.slice u I J,.slice G B M,.slice none 0 0,hZ 0].toArray):=by kernel_rfl
def wi(u:Int)(B:Int):pr hH (mv 231 [(0,hZ u),(1,hZ B)].toArray)=some (.agg [hZ u,hZ B,hZ 0,hZ 0].toArray):=by kernel_rfl
def yl(G:Int)(E:Int)(B:Int)(u:Int):pr hH (mv 231 [(0,hZ G),(1,hZ E),(2,hZ B),(3,hZ u)].toArray)=some (.agg [hZ G,hZ E,hZ B,hZ u].toArray):=by kernel_rfl
structure gl where
 p:bZ
 room:Int
 mem:Mem
 fc:List Int
 l:List kc
 cA:Int
 fault:Int
 jk:Int
structure DA where
 pv:bO
 cv:SV
 kv:SV
 q:Nat
 ov:Value
 fv:Value
 ow:Value
 ll:Value
 ps:List Ptr
@[reducible] def rC(a:DA)(s:gl):List Value:=[ir a.pv.lines,ir a.pv.iY,ir a.pv.eS,ir a.pv.threads,ir a.pv.recover,ir a.pv.eb,ir a.cv,ir a.kv,.int .i64 s.room,.pointer (some ⟨a.q,0,none⟩),a.ow,a.ll,.int .i64 s.cA,.int .i64 s.fault,.int .i64 s.jk]
def ThK(K:hM)(E:cL)(t:cR):Prop:=∃(B u:SV) (rows:List bF),E=⟨t.name,B,u,t.at_⟩/\(∀w,K w->dD (λ_=>True) w (ir B) t.dY)/\∀w,rR K u rows t.body w
def Ea(K:hM)(u:List cL)(rB:List cR):Prop:=u.length=rB.length/\∀(j:Nat) (B:cL) (t:cR),u[j]?=some B->rB[j]?=some t->ThK K B t
structure DUK(K:hM)(a:DA)(s:gl):Prop where
 pr:∀w,K w->mi w a.pv s.p
 cs:∀w,K w->dD (λ_=>True) w (ir a.cv) (cX s.p)
 ks:∀w,K w->dD (λ_=>True) w (ir a.kv) (cP s.p)
 mem:∀w,K w->BS a.ov a.fv s.mem w
 rc:∃wj,(∀w,K w->dD (λ_=>True) w (ir a.pv.recover) wj)/\Ea K wj s.p.recover
abbrev zx(K:hM)(room:Int)(s:Ptr)(t:kc):HP:=sd K s.b room t
def gG(K:hM)(p:Nat)(m:gl):HP:=qm λa:DA=>fact (DUK K a m) (sep (bW p (rC a m)) (sep (iU a.q a.ov a.fv m.mem) (sep (bE a.ow m.fc) (sep (bE a.ll a.ps) (iu (zx K m.room) a.ps m.l)))))
def nw(K:hM)(p:Nat)(m:gl)(i:Nat)(tp:Ptr):HP:=qm λa:DA=>fact (DUK K a m/\a.ps[i]?=some tp/\a.ps.length=m.l.length/\i<m.l.length) (sep (bW p (rC a m)) (sep (iU a.q a.ov a.fv m.mem) (sep (bE a.ow m.fc) (sep (bE a.ll a.ps) (n6 (zx K m.room) a.ps m.l i)))))
section
variable {w w' w0:World}{A:Nat->Prop}{R:List HP}{p:Nat}{K:hM}{m:gl}{a:DA}{i:Nat}{tp:Ptr}{t:kc}
theorem gG.open(u:St w0 A (gG K p m::R) w):∃a,DUK K a m/\St w0 A (bW p (rC a m)::iU a.q a.ov a.fv m.mem::bE a.ow m.fc::bE a.ll a.ps::iu (zx K m.room) a.ps m.l::R) w:=by
 obtain⟨a,u⟩:=u.eA;obtain⟨B,u⟩:=u.mK;exact⟨a,B,tD u⟩
theorem gG.shut(u:DUK K a m)(B:St w0 A (bW p (rC a m)::iU a.q a.ov a.fv m.mem::bE a.ow m.fc::bE a.ll a.ps::iu (zx K m.room) a.ps m.l::R) w):St w0 A (gG K p m::R) w:=
 St.eB a (St.oW u (tE B))
theorem nw.open(u:St w0 A (nw K p m i tp::R) w):∃a,(DUK K a m/\a.ps[i]?=some tp/\a.ps.length=m.l.length/\i<m.l.length)/\St w0 A (bW p (rC a m)::iU a.q a.ov a.fv m.mem::bE a.ow m.fc::bE a.ll a.ps::n6 (zx K m.room) a.ps m.l i::R) w:=by
 obtain⟨a,u⟩:=u.eA;obtain⟨B,u⟩:=u.mK;exact⟨a,B,tD u⟩
theorem nw.shut(u:DUK K a m/\a.ps[i]?=some tp/\a.ps.length=m.l.length/\i<m.l.length)(B:St w0 A (bW p (rC a m)::iU a.q a.ov a.fv m.mem::bE a.ow m.fc::bE a.ll a.ps::n6 (zx K m.room) a.ps m.l i::R) w):St w0 A (nw K p m i tp::R) w:=
 St.eB a (St.oW u (tE B))
structure as8(K:hM)(w:World)(p:Nat)(m:gl)(a:DA):Prop where
 uk:DUK K a m
 b:nh w p (rC a m)
 mem:zu w a.q m.mem
 ow:dD (λ_=>True) w a.ow m.fc
 ll:dD (λ_=>True) w a.ll a.ps
 th:∀(i:Nat) (s:Ptr) (t:kc),a.ps[i]?=some s->m.l[i]?=some t->Has (sd K s.b m.room t) w
 len:a.ps.length=m.l.length
theorem gG.rd(h:Has (gG K p m) w)(E:K w):∃a,as8 K w p m a:=by
 obtain⟨F,u⟩:=h.st
 obtain⟨a,B,u⟩:=gG.open u
 exact⟨a,B,u.hb,KF u.p1 (B.mem _ E),u.p2.dW,u.p3.dW,λi s t h1 h2=>u.p4.ajG h1 h2 (Φ:=λw=>Has (sd K s.b m.room t) w) λh=>⟨_,h⟩,u.p4.ji⟩
theorem aa1{ps:List Ptr}(B:St w0 A (iu (zx K m.room) ps m.l::R) w)(u:ps[i]?=some tp)(ht:m.l[i]?=some t):St w0 A (sd K tp.b m.room t::n6 (zx K m.room) ps m.l i::R) w:=B.focus u ht
theorem ym(B:St w0 A (sd K tp.b m.room t::nw K p m i tp::R) w):St w0 A (gG K p {m with l:=m.l.set i t}::R) w:=by
 obtain⟨a,⟨u,E,G,hi⟩,B⟩:=nw.open B.p1
 have h1:St w0 A (zx K m.room tp t::n6 (zx K m.room) a.ps m.l i::_) w:=B.p4.p5
 have h2:=h1.Eo hi G E
 have h3:=h2.p4.p4.p4.p4
 exact gG.shut (m:={m with l:=m.l.set i t}) ⟨u.pr,u.cs,u.ks,u.mem,u.rc⟩ h3
end
def tG(m:gl)(t:kc):Bool:=match pM t.cJ with
 | none=>false
 | some (x,_,_)=>if t.fault≠0\/x.kind=2 then true else if x.kind=3\/x.kind=5\/x.kind=6\/x.kind=7 then !decide (m.room<=t.buf.length)
  else if x.kind=9/\m.fc.getD (dA (cP m.p) x.name).toNat 0≠-1 then false else decide (t.buf.length=0)
def se(m:gl)(i:Nat)(t:kc):List aS:=(if tG m t=true then [⟨1,i,0,[]⟩]else [])++(qe t.buf).map λk=>⟨2,i,k,[]⟩
def iz(m:gl)(k:Nat):List aS:=(tU k).flatMap λi=>match m.l[i]? with|some t=>se m i t|none=>[]
def gi(m:gl):List aS:=if m.fault≠0 then []else iz m m.l.length
def mZ(m:gl):List aS:=if m.fault≠0 then []else(BT m.mem).map λc=>⟨3,0,0,c⟩
theorem uN{m:gl}{k:Nat}{t:kc}(h:m.l[k]?=some t):iz m (k+1)=iz m k++se m k t:=by
 unfold iz;rw[HZ,Lv];simp[h]
def aa2(t:kc):Prop:=t.fault=0->∀x a b,pM t.cJ=some (x,a,b)->(2<=x.kind/\x.kind<=10)/\(eR t x.e).2=true/\(eR t x.f).2=true
structure m4(m:gl):Prop where
 mem:vI m.mem
 th:∀t∈m.l,yW (cX m.p) (cP m.p) t
 tl:m.l.length<=1000
 ow:m.fc.length=(cP m.p).length
 rm:1<=m.room/\m.room<=16
 st:∀t∈m.l,aa2 t
 pz:PZ m.p
def AA(l:List bJ):(qe l).length<=l.length:=by grind[qe]
def Ok(m:gl)(i:Nat)(t:kc):(se m i t).length<=1+t.buf.length:=by
 have:=AA t.buf
 unfold se;grind
theorem sf{m:gl}(h:m4 m):∀k,(iz m k).length<=k*1001
 | 0=>by simp[iz]
 | k+1=>by
  have u:=sf h k
  cases ht:m.l[k]? with
  | none=>
   have e:iz m (k+1)=iz m k:=by unfold iz;rw[HZ,Lv];simp[ht]
   grind
  | some t=>
   rw[uN ht,lr]
   have:=Ok m k t
   have:=(h.th t (kE ht)).bl
   omega
def AB{m:gl}(h:m4 m):(gi m).length<=1001000:=by
 unfold gi;split
 .simp
 exact vt (sf h _) (Nat.mul_le_mul_right 1001 h.tl)
def iB(m:gl)(t:kc)(c:Int):Int:=if (lL t.buf c).isSome=true then(lL t.buf c).getD 0 else jN m.mem c
def dX(m:gl)(x:bR):Int:=dA (cX m.p) x.name
def fM(m:gl)(x:bR):Int:=dA (cP m.p) x.name
def fH(m:gl)(x:bR):Int:=qd m.p (dX m x)
def qB(m:gl)(t:kc)(y:bJ):kc:={t with buf:=tu m.room t.buf y}
def yn(m:gl)(t:kc)(x:bR):cD:=⟨if (lL t.buf (dX m x)).isSome=true then 2 else 1,0,dX m x,iB m t (dX m x),0⟩
def sg(m:gl)(t:kc)(x:bR):gl:=if jN m.mem (dX m x)=(eR t x.e).1 then {m with mem:=fw m.mem (dX m x) (eR t x.f).1}else m
def uo(m:gl)(t:kc)(x:bR):cD:=if jN m.mem (dX m x)=(eR t x.e).1 then⟨8,0,dX m x,jN m.mem (dX m x),(eR t x.f).1⟩else⟨9,0,dX m x,jN m.mem (dX m x),0⟩
def qf(m:gl)(x:bR)(i:Int):gl:={m with fc:=m.fc.set (fM m x).toNat i}
def eo(m:gl)(t:kc)(i:Int)(x:bR):gl×kc×cD:=
 if x.kind=2 then(m,pN t x.eN (iB m t (dX m x)),yn m t x)
 else if x.kind=3 then(m,qB m t ⟨3,fH m x,dX m x,(eR t x.e).1⟩,⟨3,0,dX m x,(eR t x.e).1,0⟩)
 else if x.kind=5 then(m,qB m t ⟨5,fH m x,0,0⟩,⟨4,0,fH m x,0,0⟩)
 else if x.kind=6 then(m,qB m t ⟨6,fH m x,0,0⟩,⟨5,0,fH m x,0,0⟩)
 else if x.kind=7 then(m,qB m t ⟨7,0,0,0⟩,⟨6,0,0,0,0⟩)
 else if x.kind=8 then(m,t,⟨7,0,0,0,0⟩)
 else if x.kind=4 then(sg m t x,pN t x.eN (jN m.mem (dX m x)),uo m t x)
 else if x.kind=9 then(qf m x i,t,⟨10,0,fM m x,0,0⟩)
 else(qf m x (-1),t,⟨11,0,fM m x,0,0⟩)
def uO(m:gl)(t:kc)(i:Int)(x:bR):kc:=goD { (eo m t i x).2.1 with cJ:=gO (eo m t i x).2.1.cJ}
def iI(m:gl)(i:Int):gl×cD:=match m.l[i.toNat]? with
 | none=>(m,⟨0,0,0,0,0⟩)
 | some t=>if t.fault≠0 then({m with fault:=t.fault,jk:=i},⟨16,i,t.fault,0,0⟩)else match pM t.cJ with
  | none=>(m,⟨0,0,0,0,0⟩)
  | some (x,_,_)=>if x.kind=10/\m.fc.getD (fM m x).toNat 0≠i then({m with fault:=3,jk:=i},⟨16,i,3,0,0⟩)
   else({ (eo m t i x).1 with l:=m.l.set i.toNat (uO m t i x)},{ (eo m t i x).2.2 with t:=i})
def tY(m:gl)(t:kc)(q:aS):gl:={m with mem:=j5 m.mem (dL t.buf q.i),l:=m.l.set q.t.toNat {t with buf:=j4 t.buf q.i}}
def IY(l:List bR):Bk:=(tV l).getD .nil
def xe(t:cR):kc:=⟨t.dY,r6 t.dY.length 0,jz (IY t.body) false [],0,[]⟩
def VX(t:cR):kc:=goD (xe t)
def rD(m:gl)(l:List cR):gl:={m with fc:=r6 (cP m.p).length (-1),l:=l.map VX}
def ja(m:gl)(q:aS):Option (List Int):=if q.kind=3/\q.t=0/\q.i=0/\m.fault=0 then fy m.mem q.cut else none
def pP(m:gl)(u:List Int):gl:={m with mem:=mW m.mem u,cA:=m.cA+1}
def vx(m:gl):List cR:=if m.p.recover.length=0 then [⟨⟨#[]⟩,[],[],0⟩]else m.p.recover
def nf(m:gl)(q:aS):gl×cD×Int:=match ja m q with
 | some u=>(rD (pP m u) (vx m),⟨15,0,0,ri q.cut q.cut.length,0⟩,0)
 | none=>if (gi m).any (nE q)=true then
   (if q.kind=2 then(match m.l[q.t.toNat]? with|some t=>(tY m t q,tW q.t (dL t.buf q.i),0)|none=>(m,⟨0,0,0,0,0⟩,13))else((iI m q.t).1,(iI m q.t).2,0))
  else(m,⟨0,0,0,0,0⟩,13)
def m6(t:kc):Bool:=decide (t.cJ.length=0)&&decide (t.buf.length=0)
def lM(m:gl):Bool:=decide (m.fault=0)&&!(tU m.l.length).any λi=>match m.l[i]? with|some t=>!m6 t|none=>false
def m7(m:gl):Bool:=decide (m.fault=0)&&(!lM m&&decide (((gi m).length:Int)=0))
def jb(m:gl):iv:=⟨m.cA,m.fault,m.jk,lM m,m7 m⟩
def pQ(m:gl)(c:ic):Bool:=decide ((qw (gF m.p) (m.mem.l.take (eH m.p).toNat) c.e).2=0)&&decide ((qw (gF m.p) (m.mem.l.take (eH m.p).toNat) c.e).1≠0)
def fq(m:gl):List Bool:=m.p.eb.map (pQ m)
def BX(p:bZ):List Int:=(tU (cX p).length).map fun (i:Nat)=>qd p (i:Int)
def yo(p:bZ)(room:Int):gl:=⟨p,room,KH (BX p) (eH p) (eV p),[],[],0,0,0⟩
def gj(p:bZ)(room:Int):gl:=rD (yo p room) p.threads
def C141(K Φ:hM)(p:Nat)(room:Int)(t:kc)(w:World)(G:Has (eZ K Φ p room t) w)(O:t.buf.length<=1000):CR 141 [.pointer (some ⟨p,0,none⟩)] w (λv w'=>v=.bool (decide (t.buf.length=0))/\Ext w w'):=by
 obtain⟨J,W,rg,pl,es,V,E,I,M,U,Y,_⟩:=eZ.rd G;have B:=E.cell (o:=0) rfl;have u:=St.start w;refine fj Tryz.func141 ?_;exact aE (aA py (bN A7 (B.ext u.aG) (dV aoM u (C153 J _ _ _ (I.ext u.aG) cO) λ_ _ _ u=>aK gd u.dW (aH ⟨vb (ga.2 cO),u.drop.aG⟩))))
def C138(K Φ:hM)(p:Nat)(m:gl)(q:Nat)(t:kc)(w:World)(hm:Has (gG K p m) w)(J:∀w',Ext w w'->K w')(Y:m4 m)(hh:Has (eZ K Φ q m.room t) w)(C8:t∈m.l):CR 138 [.pointer (some ⟨p,0,none⟩),.pointer (some ⟨q,0,none⟩)] w (λv w'=>v=.bool (tG m t)/\Ext w w'):=by
 obtain⟨a,M⟩:=gG.rd hm (J _ (Ext.refl _));have W:=M.b.cell (o:=7) rfl;have HH:=M.b.cell (o:=10) rfl;have E:=Y.th t C8;have Im:=E.bl;have alp:(cP m.p).length<=500:=by unfold cP;rw[nc];exact Y.pz.eS
 have oD:=ED E.p;have D6:=E.cl;obtain⟨bp,nv,rg,pl,es,hk,V,hB,Eb,VV,KM,_⟩:=eZ.rd hh;have U:=V.cell (o:=0) rfl;have Z:=V.cell (o:=4) rfl;have u:=St.start w;refine pj Tryz.func138 (pl:=az1) ?_;refine dO aaO (C137 K q t bp nv rg pl es _ _ V VV KM J E.p cO) ?_;rintro v _ ⟨he,hv⟩;have u:=u.ext he
 rcases hv with⟨eO,rfl⟩|⟨x,xa,xb,xv,av,bv,ra,rb,BW,rfl,AO,_⟩
 .exact aM rfl (aM rfl (aM rfl (aM rfl (aN u jD λ_ _ u=>aJ (x:=(⟨0,⟨#[]⟩,⟨#[]⟩,bY,bY,0,0,0,0⟩:bF)) u eU rfl rfl λ_ u=>bT (hG ⟨vb (by unfold tG;rw[eO]),u.drop.aG⟩)))))
 obtain⟨ge,gf,rfl,_,_⟩:=jn (AO _ (J _ u.aG));have hx:=(E.top BW).1;have B:tG m t=(if t.fault≠0\/x.kind=2 then true else if x.kind=3\/x.kind=5\/x.kind=6\/x.kind=7 then !decide (m.room<=t.buf.length)else if x.kind=9/\m.fc.getD (dA (cP m.p) x.name).toNat 0≠-1 then false else decide (t.buf.length=0)):=by unfold tG;rw[BW]
 refine aM rfl (aM rfl (aM rfl (aM rfl (aN u jD λb5 w2 u=>aJ (x:=(⟨x.kind,x.eN,x.name,ge,gf,x.n,x.body,x.eG,x.at_⟩:bF)) u eU rfl rfl λw3 u=>bT (fx ?_)))));refine⟨λG w'=>G=.bool (decide (t.fault≠0\/x.kind=2))/\w'=w3,?_,?_⟩
 .exact aE (aA xz (bN bL (Z.ext u.aG) (bQ (aC (λ_=>⟨vb (ez cO).symm,rfl⟩) λ_=>aA dU (aB (v:=hZ x.kind) bL u.hb rfl (aH ⟨vb (ga.2 cO),rfl⟩))))))
 rintro _ w4 ⟨rfl,rfl⟩ _;refine aC (λc1=>?_) (λc1=>?_)
 .exact⟨vb (by rw[B,ew c1]),u.drop.aG⟩
 rw[ej c1]at B;refine⟨λG w'=>G=.bool (decide (x.kind=3\/x.kind=5\/x.kind=6\/x.kind=7))/\w'=w4,?_,?_⟩
 .refine aA dU (aB (v:=hZ x.kind) bL u.hb rfl ?_);exact aH (aC (λ_=>⟨vb (ez cO).symm,rfl⟩) λ_=>aA dU (aB (v:=hZ x.kind) bL u.hb rfl (aH (aC (λ_=>⟨vb (ez cO).symm,rfl⟩) λ_=>aA dU (aB (v:=hZ x.kind) bL u.hb rfl (aH (aC (λ_=>⟨vb (ez cO).symm,rfl⟩) λ_=>aA dU (aB (v:=hZ x.kind) bL u.hb rfl (aH ⟨vb (ga.2 cO),rfl⟩)))))))))
 rintro _ _ ⟨rfl,rfl⟩ _;refine aC (λc2=>?_) (λc2=>?_)
 .exact aE (aA py (bN A7 (U.ext u.aG) (aW ahk u (C215 bp _ _ _ (hB.ext u.aG)) λ_ _ u=>bT ⟨vb (by rw[B,ew c2]),u.drop.aG⟩)))
 rw[ej c2]at B;refine⟨λG w'=>G=.bool (decide (x.kind=9/\m.fc.getD (dA (cP m.p) x.name).toNat 0≠-1))/\St w aX [bW b5 (j0 (⟨x.kind,x.eN,x.name,ge,gf,x.n,x.body,x.eG,x.at_⟩:bF))] w',?_,?_⟩
 .have u:=u.drew;refine aA dU (aB (v:=hZ x.kind) bL u.hb rfl (aH (aC (λc3=>?_) λ_=>⟨vb (fV cO).symm,u⟩)));obtain⟨j,hj,BO,_⟩:=mf (dS.1 (hx.lk (.inl c3)));have Cm:=(kB.1 BO).1;have how:=Y.ow;refine aE (aA vR (bN ey (HH.ext u.aG) (aE (aA JX (bN jq (W.ext u.aG) (aA gw (aB (v:=.string x.name) gK u.hb rfl (aW IB u (C159 _ (cP m.p) x.name _ (M.uk.ks _ (J _ u.aG)) cO) λ_ he u=>?_))))))));refine⟨aF ey (HH.ext u.aG),?_⟩;obtain⟨ov,I⟩:=gx m.fc (i:=(dA (cP m.p) x.name).toNat) cO
  refine aQ cS (M.ow.ext u.aG) cO I (λq71 h71=>aD bL h71 (bQ ?_));refine⟨vb (ga.2 ?_),u⟩;rw[n3,I];exact⟨λh=>⟨c3,h⟩,λh=>h.2⟩
 rintro _ _ ⟨rfl,u⟩ _;refine aC (λO=>?_) (λO=>?_)
 .exact⟨vb (by rw[B,ew O]),u.drop.aG⟩
 exact aW aiB u (C141 K Φ q m.room t _ (hh.ext u.aG) Im) (λ_ _ u=>⟨vb (by rw[B,ej O]),u.drop.aG⟩)
def C67(K:hM)(p:Nat)(m:gl)(w:World)(hm:Has (gG K p m) w)(Y:∀w',Ext w w'->K w')(I:m4 m):CR 67 [.pointer (some ⟨p,0,none⟩)] w (λv w'=>kq (fJ v (gi m)) w w'):=by
 obtain⟨a,E⟩:=gG.rd hm (Y _ (Ext.refl _));have C9:=E.b.cell (o:=11) rfl;have VY:=E.b.cell (o:=13) rfl;have hlen:=E.len;have Pk:=I.tl;have u:=St.start w;refine fj Tryz.func67 ?_;refine aE (aA yJ (bN bL (VY.ext u.aG) (bQ (aC (λc=>?_) λc=>?_))))
 .have B:gi m=[]:=by unfold gi;rw[ew c]
  rw[B];exact u.J4.fresh
 have B:gi m=iz m m.l.length:=by unfold gi;rw[ej c]
 rw[B];refine aE (aA vS (bN JV (C9.ext u.aG) (aK Mk (E.ll.ext u.aG) ?_)));refine⟨λG o y J=>∃k:Nat,y=hZ (k:Int)/\G=a.ps.length-k/\k<=a.ps.length/\St w aX [fJ o (iz m k)] J,⟨_,0,rfl,rfl,l0 _,u.J4⟩,?_⟩;rintro G o _ J ⟨k,rfl,rfl,hk,u⟩ _;have oD:=sf I k;have Ss:k*1001<=1001000:=cO
 refine aR (aC (λc1=>?_) λc1=>?_);rotate_left
 .rw[show k=m.l.length from cO]at u;exact u.fresh
 obtain⟨e,V⟩:=gx a.ps (i:=((k:Nat):Int).toNat) cO;obtain⟨t,ht⟩:=gx m.l (i:=k) cO;have W:=kE ht;have Im:=(I.th t W).bl;have Xa:=E.th k e t V ht;obtain⟨bp,nv,rg,pl,es,Lw,tF,hB,Eb,VV,KM,_⟩:=eZ.rd Xa;have M:=tF.cell (o:=0) rfl;refine aQ Mk (E.ll.ext u.aG) cO V (λq O=>aD Ie O ?_);refine⟨λjv w'=>St w aX [fJ jv (iz m k++(if tG m t=true then [(⟨1,k,0,[]⟩:aS)]else []))] w',?_,?_⟩
 .refine aW asY u (C138 K _ p m e.b t _ (hm.ext u.aG) (λ_ e=>Y _ (u.aG.then e)) I (Xa.ext u.aG) W) (λ_ V u=>bD (λU=>?_) λU=>?_)
  .refine pop (C7 1 (k:Int)) (have u:=u.fk (Φ:=λw=>mi w (⟨1,(k:Int),0,bY⟩:aI) (⟨1,(k:Int),0,[]⟩:aS)) (λw=>⟨bY,rfl,DL.nil w⟩);gA (x:=(⟨1,(k:Int),0,[]⟩:aS)) (s:=(⟨1,(k:Int),0,bY⟩:aI)) u fD ee λs29 _ u=>gg u.p1 fD (by rw[l2];omega) ee λs30 _ u=>?_);rw[ew U];exact u
  rw[ej (by rw[U];decide),oO];exact u
 rintro o2 _ u _;refine aE (aA py (bN A7 (M.ext u.aG) (dV aoI u (C139 bp _ _ _ (hB.ext u.aG) cO) λKR _ cI u=>?_)));have D6:=AA t.buf;refine aK cS u.dW ?_;refine⟨λG o y J=>∃j:Nat,y=hZ (j:Int)/\G=(qe t.buf).length-j/\j<=(qe t.buf).length/\St w aX [fJ o (iz m k++(if tG m t=true then [(⟨1,k,0,[]⟩:aS)]else [])++((qe t.buf).take j).map λi=>(⟨2,k,i,[]⟩:aS)),bE KR (qe t.buf)] J,⟨_,0,rfl,rfl,l0 _,by rw[List.take_zero,List.map_nil,oO];exact u.p1⟩,?_⟩;rintro G o3 _ _ ⟨j,rfl,rfl,hj,u⟩ _;refine aR (aC (λc3=>?_) λc3=>?_)
 .obtain⟨y,Z⟩:=gx (qe t.buf) (i:=((j:Nat):Int).toNat) cO;exact aQ cS u.p1.dW cO Z (λ_ O=>aD bL O (pop (DG 2 (k:Int) y) (have u:=u.fk (Φ:=λw=>mi w (⟨2,(k:Int),y,bY⟩:aI) (⟨2,(k:Int),y,[]⟩:aS)) (λw=>⟨bY,rfl,DL.nil w⟩);gA (x:=(⟨2,(k:Int),y,[]⟩:aS)) (s:=(⟨2,(k:Int),y,bY⟩:aI)) u fD ee λ_ _ u=>gg u.p1 fD (by simp only[lr,nc,l1,l2];split<;>simp<;>omega) ee λ_ _ u=>aO cO ⟨_,cO,j+1,rfl,rfl,cO,by rw[<- gy (k:=j) Z,<- nK];exact u⟩)))
 rw[kO cO]at u;refine aO cO ?_;refine⟨_,cO,k+1,rfl,rfl,cO,?_⟩;rw[uN ht];unfold se;rw[<- nK];exact u.p1.drop
def aiF:PL 227:=dR Tryz.func227
def aAb:PL 53:=dR Tryz.func53
def C158(K:hM)(p:Nat)(m:gl)(i kind:Int)(F:Nat->Prop)(w:World)(E:(gG K p m).p w F):CR 158 [.pointer (some ⟨p,0,none⟩),hZ i,hZ kind] w (λv w'=>v=ir (⟨16,i,kind,0,0⟩:cD)/\nd F (gG K p {m with fault:=kind,jk:=i}) w w'):=by
 have u:=St.begin E;refine fj Tryz.func158 ?_;obtain⟨a,B,u⟩:=gG.open u;exact aN u mr (λ_ _ u=>have u:=u.enc (cs':=j0 (⟨0,0,0,0,0⟩:cD)) rfl;aE (aA yJ (aT u.p1 bL (dQ rfl) rfl λ_ u=>aE (aA SU (aT u bL (dQ rfl) rfl λ_ u=>pop (um 16 i kind) (aJ (x:=(⟨16,i,kind,0,0⟩:cD)) u.p1 fr rfl rfl λ_ u=>aD fr u.At ⟨rfl,(gG.shut (m:={m with fault:=kind,jk:=i}) ⟨B.pr,B.cs,B.ks,B.mem,B.rc⟩ u.drop).mut⟩))))))
def C160(K:hM)(p:Nat)(m:gl)(n:Nat)(tp:Ptr)(t:kc)(x:bR)(W:bF)(F:Nat->Prop)(c:Int)(w:World)(hF:(sep (sd K tp.b m.room t) (nw K p m n tp)).p w F)(M:∀w',gJ F w w'->K w')(O:yW (cX m.p) (cP m.p) t)(B:vI m.mem)(AO:∀w,K w->mi w W x)(Eb:0<=dA t.names x.eN):CR 160 [.pointer (some ⟨p,0,none⟩),.pointer (some ⟨tp.b,0,none⟩),ir W,hZ c] w (λv w'=>v=ir (⟨if (lL t.buf c).isSome=true then 2 else 1,0,c,iB m t c,0⟩:cD)/\nd F (sep (sd K tp.b m.room (pN t x.eN (iB m t c))) (nw K p m n tp)) w w'):=by
 have u:=(St.begin hF).split;obtain⟨Z,U,rfl,_,_⟩:=jn (AO _ (M _ u.aG));obtain⟨j,hj,BO,_⟩:=mf (dS.1 Eb);have Cm:=(kB.1 BO).1;have hnb:=O.nb;have HF:=O.rl;have Im:=O.bl;refine afP _ _ _ _ _ _ ?_;unfold S160;refine cM (x:=(⟨x.kind,x.eN,x.name,Z,U,x.n,x.body,x.eG,x.at_⟩:bF)) u (λb6 _ u=>aN u mr λb8 _ u=>?_);have u:=(u.enc (cs':=j0 (⟨0,0,0,0,0⟩:cD)) rfl).p2;obtain⟨J,nv,rg,pl,es,Y,u⟩:=eZ.open u;refine aE (aA py (aB A7 u.hb rfl (aW aoX u (C226 J c m.room t.buf _ (EB u.p1) cO) λ_ he u=>aM rfl (aM rfl ?_))))
 refine⟨λn9 E w'=>n9=hZ (iB m t c)/\E=hZ (if (lL t.buf c).isSome=true then 2 else 1)/\St w F [bW tp.b (BV J nv rg pl t.fault),jr J m.room t.buf,bE rg t.dY,bE pl (Pr es),dZ (λw=>EF K w es t.cJ/\True),bW b8 (j0 (⟨0,0,0,0,0⟩:cD)),bW b6 (j0 (⟨x.kind,x.eN,x.name,Z,U,x.n,x.body,x.eG,x.at_⟩:bF)),nw K p m n tp] w',?_,?_⟩
 .refine bT (bD (λI=>?_) λI=>?_)
  .have h1:(lL t.buf c).isSome=false:=by simpa using I
   have u:=u.p7;obtain⟨a,V,u⟩:=nw.open u;exact aE (aA ua (aB Mj u.hb rfl (aW aiF u (aiy a.q m.mem c _ (KF u.p1 (V.1.mem _ (M _ u.aG))) B) λ_ _ u=>aM rfl (aM rfl (have u:=(((((((nw.shut (m:=m) V u.p4.p4.p4.p4.p4).p7).p7).p7).p7).p7).p7).p7;⟨by unfold iB;rw[ej (by rw[h1];decide)],by rw[ej (by rw[h1];decide)],u⟩)))))
  have h1:(lL t.buf c).isSome=true:=by simpa using I
  exact⟨by unfold iB;rw[ew h1],by rw[ew h1],u⟩
 rintro _ _ _ ⟨rfl,rfl,u⟩ _;have u:=u.drew;refine aE (aA Bb (aB ey u.hb rfl (aE (aA Ba (aB jq u.hb rfl (aA iP (aB (v:=.string x.eN) gK u.p6.hb rfl (aW IB u (C159 _ t.names x.eN _ (Y _ (M _ u.aG)) cO) λ_ he u=>?_))))))));refine⟨aF ey (u.hb.cell rfl),?_⟩;exact dT u.p2 cS cO cO (λ_ G=>jA (iB m t c:Int) u.p2 bL G cO λ_ u=>pop (mY (if (lL t.buf c).isSome=true then 2 else 1) c (iB m t c)) (aJ (x:=(⟨if (lL t.buf c).isSome=true then 2 else 1,0,c,iB m t c,0⟩:cD)) u.p5 fr rfl rfl λ_ u=>aD fr u.At (have u:=eZ.shut (Φ:=λ_=>True) (t:=pN t x.eN (iB m t c)) Y u.drop.p5.drop.p4.p4.p2.p4.p4;have u:=u.p1.p1;⟨rfl,(St.join u).mut⟩)))
def C163(K:hM)(p:Nat)(m:gl)(n:Nat)(tp:Ptr)(t:kc)(x:bR)(xv:bF)(F:Nat->Prop)(w:World)(hF:(sep (sd K tp.b m.room t) (nw K p m n tp)).p w F)(E:∀w',gJ F w w'->K w')(j7:yW (cX m.p) (cP m.p) t)(J:vI m.mem)(AO:∀w,K w->mi w xv x)(Eb:0<=dA t.names x.eN)(nL:MB m.mem 1000000)(W7:x.e.length<=1000/\x.f.length<=1000)(hv1:(eR t x.e).2=true)(V:(eR t x.f).2=true):CR 163 [.pointer (some ⟨p,0,none⟩),.pointer (some ⟨tp.b,0,none⟩),ir xv,hZ (dX m x)] w (λv w'=>v=ir (uo m t x)/\nd F (sep (sd K tp.b m.room (pN t x.eN (jN m.mem (dX m x)))) (nw K p (sg m t x) n tp)) w w'):=by
 have u:=(St.begin hF).split;obtain⟨ge,Z,rfl,_,_⟩:=jn (AO _ (E _ u.aG))
 have Rm:∀w,K w->dD (λ_=>True) w (ir ge) x.e/\dD (λ_=>True) w (ir Z) x.f:=λw Y=>by
  obtain⟨_,_,h4,h5,h6⟩:=jn (AO w Y);cases h4
  exact⟨h5,h6⟩
 obtain⟨j,hj,BO,_⟩:=mf (dS.1 Eb);have Cm:=(kB.1 BO).1;have hnb:=j7.nb;have HF:=j7.rl;have ht1:{t with fault:=if (eR t x.e).2=true then t.fault else 2}=t:=by rw[hv1];rfl
 have ht2:{t with fault:=if (eR t x.f).2=true then t.fault else 2}=t:=by rw[V];rfl
 obtain⟨c,hc⟩:∃c,c=dX m x:=⟨_,rfl⟩;rw[<- hc];refine afQ _ _ _ _ _ _ ?_;unfold S163;refine cM (x:=(⟨x.kind,x.eN,x.name,ge,Z,x.n,x.body,x.eG,x.at_⟩:bF)) u (λb6 _ u=>aN u mr λb8 _ u=>?_);have u:=(u.enc (cs':=j0 (⟨0,0,0,0,0⟩:cD)) rfl).p3;obtain⟨a,B,u⟩:=nw.open u;refine aE (aA ua (aB Mj u.hb rfl (aW aiF u (aiy a.q m.mem c _ (KF u.p1 (B.1.mem _ (E _ u.aG))) J) λ_ he u=>aM rfl (aM rfl (aA jg (aB (v:=ir ge) jC u.p6.hb rfl (have u:=u.p7;bG N8 u (H':=λ_=>sd K tp.b m.room t) (Φ:=λv _=>v=.tuple #[hZ (eR t x.e).1,.bool (eR t x.e).2]) (λO M I=>?_) ?_)))))))
 .have:=C161 K _ tp.b m.room t O _ x.e _ M (λw' hc=>E w' (I w' hc).aG) (Rm _ (E _ u.aG)).1 cO cO;rw[ht1]at this;exact this
 rintro _ _ rfl u;refine aM rfl (aM rfl (aA km (aB (v:=ir Z) jC u.p7.hb rfl (bG N8 u (H':=λ_=>sd K tp.b m.room t) (Φ:=λv _=>v=.tuple #[hZ (eR t x.f).1,.bool (eR t x.f).2]) (λO M I=>?_) ?_))))
 .have:=C161 K _ tp.b m.room t O _ x.f _ M (λw' hc=>E w' (I w' hc).aG) (Rm _ (E _ u.aG)).2 cO cO;rw[ht2]at this;exact this
 rintro _ _ rfl u;refine aM rfl (aM rfl ?_);obtain⟨bp,nv,rg,pl,es,hk,u⟩:=eZ.open u;have u:=u.drew;refine aE (aA Bb (aB ey u.hb rfl (aE (aA Ba (aB jq u.hb rfl (aA iP (aB (v:=.string x.eN) gK u.p11.hb rfl (aW IB u (C159 _ t.names x.eN _ (hk _ (E _ u.aG)) cO) λ_ he u=>?_))))))));refine⟨aF ey (u.hb.cell rfl),?_⟩;refine dT u.p2 cS cO cO (λ_ W=>jA (jN m.mem c:Int) u.p2 bL W cO λw6' u=>have u:=eZ.shut (Φ:=λ_=>True) (t:=pN t x.eN (jN m.mem c)) hk u.p4.p4.p2.p4.p4;bQ (aC (λU=>?_) λU=>?_))
 .have G:sg m t x=m:=by unfold sg;rw[<- hc,ej U]
  have Ay:uo m t x=⟨9,0,c,jN m.mem c,0⟩:=by unfold uo;rw[<- hc,ej U]
  refine pop (mY 9 c (jN m.mem c)) (aJ (x:=(⟨9,0,c,jN m.mem c,0⟩:cD)) u.p6 fr rfl rfl λ_ u=>aD fr u.At ?_);have u:=(nw.shut (m:=m) B u.drop.p6.drop.p5.p5.p5.p5.p5).p1;rw[G,Ay];exact⟨rfl,(St.join u).mut⟩
 have G:sg m t x={m with mem:=fw m.mem c (eR t x.f).1}:=by unfold sg;rw[<- hc,ew (by simpa using U)]
 have Ay:uo m t x=⟨8,0,c,jN m.mem c,(eR t x.f).1⟩:=by unfold uo;rw[<- hc,ew (by simpa using U)]
 refine aE (aA ua (aB Mj u.p1.hb rfl (have u:=u.p2;bG ahf u (H':=λ_=>iU a.q a.ov a.fv (fw m.mem c (eR t x.f).1)) (Φ:=λ_ _=>True) (λO M I=>?_) ?_)))
 .exact(C156 a.q a.ov a.fv m.mem O c _ _ M (λw' hc=>B.1.mem _ (E w' (I w' hc).aG)) J nL).mono λ_ _ r=>r.mono λ_ _ h=>⟨trivial,h.2⟩
 rintro _ _ _ u;refine pop (zW 8 c (jN m.mem c) (eR t x.f).1) (aJ (x:=(⟨8,0,c,jN m.mem c,(eR t x.f).1⟩:cD)) u.p6 fr rfl rfl λ_ u=>aD fr u.At ?_);have u:=nw.shut (m:={m with mem:=fw m.mem c (eR t x.f).1}) (⟨⟨B.1.pr,B.1.cs,B.1.ks,λw Y=>(B.1.mem w Y).write,B.1.rc⟩,B.2⟩) u.drop.p6.drop.p5.p5.p5.p3.p5;have u:=u.p1;rw[G,Ay];exact⟨rfl,(St.join u).mut⟩
def C87(cv:Value)(cut:List Int)(w:World)(J:dD (λ_=>True) w cv cut)(O:cut.length<=1000000):CR 87 [cv] w (λv w'=>v=hZ (ri cut cut.length)/\Ext w w'):=by
 have u:=St.start w;refine alk _ _ _ ?_;unfold S87;refine aK cS (J.ext u.aG) ?_;refine⟨λI n x G=>∃k:Nat,n=hZ (ri cut k)/\x=hZ (k:Int)/\I=cut.length-k/\k<=cut.length/\St w aX [] G,⟨_,0,rfl,rfl,rfl,l0 _,u⟩,?_⟩;rintro I _ _ G ⟨k,rfl,rfl,rfl,V,u⟩ _;refine aR (aC (λU=>?_) λ_=>⟨by rw[show cut.length=k from cO],u.aG⟩);obtain⟨E,B⟩:=gx cut (i:=(k:Int).toNat) cO;exact aQ cS J cO B (λ_ M=>aD bL (M.ext u.aG) (xE (ve (aO cO ⟨_,cO,k+1,by rw[GA (k:=k) B],rfl,rfl,cO,u⟩))))
def C88(q x:aS)(V:aI)(b:Nat)(W:aI)(w:World)(hq:mi w V q)(B:At (λ_=>True) w (.pointer (some ⟨b,0,none⟩)) W)(E:mi w W x):CR 88 [ir V,(.pointer (some ⟨b,0,none⟩))] w (λv w'=>v=.bool (nE x q)/\Ext w w'):=by
 obtain⟨I,rfl,Z⟩:=hq;obtain⟨M,rfl,U⟩:=E;have u:=St.start w;refine fj Tryz.func88 ?_;refine cM u (λG _ u=>⟨λjv w'=>jv=.bool (nE x q)/\St w aX [bW G (j0 (⟨q.kind,q.t,q.i,I⟩:aI))] w',?_,?_⟩)
 .refine aA mu (aB (v:=hZ q.kind) bL u.hb rfl (bX x.kind mu B rfl rfl λ_ J=>aD bL (J.ext u.aG) (aH (aC (λgR=>aA lQ (aB (v:=hZ q.t) bL u.hb rfl (bX x.t lQ B rfl rfl λ_ Zk=>aD bL (Zk.ext u.aG) (aH (aC (λjL=>aA qI (aB (v:=hZ q.i) bL u.hb rfl (bX x.i qI B rfl rfl λ_ l8=>aD bL (l8.ext u.aG) (aH (aC (λlg=>?_) λ_=>⟨vb (by unfold nE;first|(simp_all;done)|grind),u⟩))))) λ_=>⟨vb (by unfold nE;first|(simp_all;done)|grind),u⟩))))) λ_=>⟨vb (by unfold nE;first|(simp_all;done)|grind),u⟩))))
  refine bX M px B rfl rfl (λ_ Y=>aD ey (Y.ext u.aG) ?_);have O:=DL.flat U;exact aK cS (O.ext u.aG) (aH ⟨vb (by unfold nE;first|(simp_all;done)|grind),u⟩)
 rintro _ _ ⟨rfl,u⟩ _;exact⟨rfl,u.drop.aG⟩
theorem nh.ext{w w':World}{b:Nat}{cs:List Value}(h:nh w b cs)(e:Ext w w'):nh w' b cs:=h.of_eq (e.bW b h.lt λh=>h)
def Da(s:ByteArray)(a:Int)(t:ByteArray):Bool:=decide (a+t.size<=s.size)&&decide (s.extract a.toNat (a+t.size).toNat=t)
def whF(p:UInt8->Bool)(s:ByteArray):Nat->Nat->Nat
 | 0,a=>a
 | n+1,a=>match (iX s)[a]? with
  | some c=>if p c=true then whF p s n (a+1)else a
  | none=>a
def xf(p:UInt8->Bool)(s:ByteArray)(a:Nat):Nat:=whF p s (s.size-a) a
section
variable {p:UInt8->Bool}{s:ByteArray}{k:Nat}{c:UInt8}
theorem KS(h:s.size<=k):xf p s k=k:=by unfold xf;simp_all[whF]
theorem rE(h:(iX s)[k]?=some c):k<s.size:=by have:=(kB.1 h).1;rw[fh]at this;exact this
theorem GF(h:(iX s)[k]?=some c)(u:p c=true):xf p s k=xf p s (k+1):=by
 have B:=rE h
 unfold xf
 rw[show s.size-k=(s.size-(k+1))+1 from cO,whF,h]
 grind
theorem GG(h:(iX s)[k]?=some c)(u:p c=false):xf p s k=k:=by
 have B:=rE h
 unfold xf
 rw[show s.size-k=(s.size-(k+1))+1 from cO,whF,h]
 grind
end
def uQ(c:UInt8):Bool:=decide (c.toNat=32\/c.toNat=9\/c.toNat=10\/c.toNat=13)
def yp(c:UInt8):Bool:=decide (c.toNat≠10)
def tH(c:UInt8):Bool:=gN c.toNat||kG c.toNat
def xg(c:UInt8):Bool:=kG c.toNat
def lO(s:ByteArray):Nat->Nat->Option Nat
 | 0,_=>none
 | n+1,a=>match (iX s)[a]? with
  | none=>some a
  | some c=>if uQ c=true then lO s n (a+1)else if Da s a ⟨#[47,47]⟩=true then lO s n (xf yp s a)else some a
theorem Rn{s:ByteArray}{n a r:Nat}(h:lO s n a=some r):∃k,n=k+1:=by
 cases n with
 | zero=>cases h
 | succ k=>grind
section
variable {s:ByteArray}{n a r:Nat}{c:UInt8}
theorem VZ(h:lO s (n+1) a=some r)(u:s.size<=a):r=a:=by
 unfold lO at h;rw[nt (by rw[fh];exact u)]at h;grind
theorem DH(h:lO s (n+1) a=some r)(hc:(iX s)[a]?=some c)(hb:uQ c=true):lO s n (a+1)=some r:=by
 grind[lO]
theorem IZ(h:lO s (n+1) a=some r)(hc:(iX s)[a]?=some c)(hb:uQ c=false)(u:Da s a ⟨#[47,47]⟩=true):lO s n (xf yp s a)=some r:=by
 grind[lO,xf,yp]
theorem Ol(h:lO s (n+1) a=some r)(hc:(iX s)[a]?=some c)(hb:uQ c=false)(u:Da s a ⟨#[47,47]⟩=false):r=a:=by
 unfold lO at h;grind
theorem aa5:∀(n a:Nat) (p:UInt8->Bool),a<=whF p s n a/\whF p s n a<=max a s.size
 | 0,a,p=>⟨o6 _,by unfold whF;omega⟩
 | n+1,a,p=>by
  unfold whF
  cases h:(iX s)[a]? with
  | none=>grind
  | some c=>
   dsimp only
   split
   .have:=aa5 n (a+1) p;have:=rE h;omega
   omega
theorem Ro(p:UInt8->Bool):a<=xf p s a/\xf p s a<=max a s.size:=aa5 _ _ _
theorem BY:∀{n a r:Nat},lO s n a=some r->a<=s.size->a<=r/\r<=s.size
 | 0,_,_,h,_=>by cases h
 | n+1,a,r,h,u=>by
  cases hc:(iX s)[a]? with
  | none=>unfold lO at h;grind
  | some c=>
   have B:=rE hc
   cases hb:uQ c with
   | true=>have:=BY (DH h hc hb) cO;omega
   | false=>
    cases hr:Da s a ⟨#[47,47]⟩with
    | true=>have h1:=Ro (s:=s) (a:=a) yp;have:=BY (IZ h hc hb hr) cO;omega
    | false=>have:=Ol h hc hb hr;omega
end
def Ec:List ByteArray:=[⟨#[61,61]⟩,⟨#[33,61]⟩,⟨#[60,61]⟩,⟨#[38,38]⟩,⟨#[124,124]⟩]
def rp(s:ByteArray)(a:Nat)(c:UInt8):Int:=if Ec.any (Da s a)=true then 2 else if (iX (kp #[40,41,123,125,59,44,61,60,33,43,45,42,47,37])).any (λx=>decide ((x.toNat:Int)=c.toNat))=true then 1 else 0
def uq(l:List bU)(i:Int)(t:ByteArray):Bool:=decide (0<=i)&&(match l[i.toNat]? with|some x=>decide (x.text=t)&&decide (x.kind≠2)&&decide (1<=x.kind)&&decide (x.kind<=3)|none=>false)
def nM(l:List bU)(i:Int):Int:=match (if 0<=i then l[i.toNat]? else none)with
 | some x=>x.at_
 | none=>match l.getLast? with
  | some x=>x.at_+x.text.size
  | none=>0
def afV:∀t∈Ec,t.size<=1000000:=ee
def tI{l:List bU}{i:Int}{t:ByteArray}(h:uq l i t=true):0<=i/\i<l.length:=by
 unfold uq at h
 grind
def C254(s t:ByteArray)(i:Int)(w:World)(J:s.size<=1000000)(E:t.size<=1000000)(I:0<=i/\i<=2000000):CR 254 [.string s,hZ i,.string t] w (λv w'=>v=.bool (Da s i t)/\Ext w w'):=by
 have B:=St.start w;refine fj Tryz.func254 ?_;refine⟨λu w'=>u=.bool (Da s i t)/\w=w',fu iC (aO cO (fu iC (gz (aC (λ_=>fu iC (aO cO (MF iC cO cO cO (jP ⟨vb (by unfold Da;grind),rfl⟩)))) λ_=>⟨vb (by unfold Da;grind),rfl⟩)))),?_⟩;rintro _ _ ⟨rfl,G⟩ _;subst G;exact⟨rfl,B.aG⟩
theorem C205(s:ByteArray)(i N r:Nat)(w:World)(hz:s.size<=4000)(h0:i<=s.size)(hr:lO s N i=some r):CR 205 [.string s,hZ (i:Int)] w (λv w'=>v=hZ (r:Int)/\Ext w w'):=by
 have hz0:=hz;replace hz:s.size<=1000000:=cO
 have u:=St.start w;refine fj Tryz.func205 ?_;refine⟨λI x G=>∃a:Nat,x=hZ (a:Int)/\a<=s.size/\lO s I a=some r/\St w aX [] G,⟨N,i,rfl,h0,hr,u⟩,?_⟩;rintro I _ G ⟨a,rfl,ha,E,u⟩ _;obtain⟨k,rfl⟩:=Rn E;refine fu iC (aR (aC (λjQ=>?_) λjQ=>?_))
 .obtain⟨Zf,J⟩:∃U,(iX s)[(a:Int).toNat]?=some U:=⟨_,la (by rw[fh];omega)⟩;refine j8 iC cO J ⟨λjv w'=>jv=.bool (uQ Zf)/\G=w',nZ (aC (λ_=>⟨vb (by unfold uQ;first|exact(ez cO).symm|exact ga.2 cO),rfl⟩) λ_=>nZ (aC (λ_=>⟨vb (by unfold uQ;first|exact(ez cO).symm|exact ga.2 cO),rfl⟩) λ_=>nZ (aC (λ_=>⟨vb (by unfold uQ;first|exact(ez cO).symm|exact ga.2 cO),rfl⟩) λ_=>nZ ⟨vb (by unfold uQ;first|exact(ez cO).symm|exact ga.2 cO),rfl⟩))),?_⟩
  rintro _ _ ⟨rfl,V⟩ _;subst V;refine bD (λO=>?_) (λO=>aW aho u (C254 s (kp #[47,47]) (a:Int) _ hz ee cO) λ_ he u=>bD (λY=>?_) λY=>?_)
  .refine aO cO ?_;have Vl:=rE J;exact⟨k,cO,a+1,rfl,cO,DH E J O,u⟩
  .refine⟨λI x G=>∃j:Nat,x=hZ (j:Int)/\I=s.size-j/\a<=j/\j<=s.size/\xf yp s a=xf yp s j/\St w aX [] G,⟨_,a,rfl,rfl,o6 _,ha,rfl,u⟩,?_⟩;rintro I _ w4 ⟨j,rfl,rfl,haj,hj,jd,u⟩ _;refine⟨λjv w'=>jv=.bool (match (iX s)[j]? with|some c=>yp c|none=>false)/\w4=w',fu iC (aR (aC (λlI=>?_) λlI=>⟨vb (by first|(rw[show(iX s)[j]?=some yi from Z];unfold yp;exact ga.2 cO)|(rw[nt (by rw[fh];omega)])),rfl⟩)),?_⟩
   .obtain⟨yi,Z⟩:∃U,(iX s)[(j:Int).toNat]?=some U:=⟨_,la (by rw[fh];omega)⟩;exact j8 iC cO Z (Yq ⟨vb (by first|(rw[show(iX s)[j]?=some yi from Z];unfold yp;exact ga.2 cO)|(rw[nt (by rw[fh];omega)])),rfl⟩)
   rintro _ _ ⟨rfl,V⟩ _;subst V;refine bD (λB=>?_) (λB=>?_)
   .refine aO cO ?_
    have M:∃c,(iX s)[j]?=some c/\yp c=true:=by
     cases hc:(iX s)[j]? with
     | none=>rw[hc]at B;cases B
     | some c=>rw[hc]at B;exact⟨c,rfl,B⟩
    obtain⟨cj,Ed,V0⟩:=M;have Cm:=rE Ed;exact⟨_,cO,j+1,rfl,rfl,cO,cO,jd.trans (GF Ed V0),u⟩
   have W:xf yp s j=j:=by
    by_cases hjs:j<s.size
    .obtain⟨cj,M⟩:∃c,(iX s)[j]?=some c:=⟨_,la (by rw[fh];exact hjs)⟩;rw[M]at B;exact GG M B
    .exact KS cO
   have UW:=IZ E J O Y;rw[jd,W]at UW;exact⟨k,cO,j,rfl,hj,UW,u⟩
  have hx:=Ol E J O (by exact_mod_cast Y);subst hx;exact⟨rfl,u.aG⟩
 have hx:=VZ E cO;subst hx;exact⟨rfl,u.aG⟩
def C208(s:ByteArray)(i:Nat)(c:UInt8)(w:World)(hz:s.size<=1000000)(hc:(iX s)[i]?=some c):CR 208 [.string s,hZ (i:Int)] w (λv w'=>v=hZ (rp s i c)/\Ext w w'):=by
 have hi:=rE hc;have u:=St.start w;refine pj Tryz.func208 (pl:=aw5) ?_;refine aV Ec u iK rfl rfl (dQ rfl) (λZ J u=>?_);refine⟨λG x J=>∃k:Nat,x=hZ (k:Int)/\G=Ec.length-k/\k<=Ec.length/\(∀y∈Ec.take k,Da s i y=false)/\St w aX [bE Z Ec] J,⟨_,0,rfl,rfl,l0 _,ei,u⟩,?_⟩;rintro G _ _ ⟨k,rfl,rfl,hk,E,u⟩ _;refine aK iK u.dW ?_;have Pk:Ec.length=5:=rfl;refine aR (aC (λxL=>?_) λxL=>?_)
 .obtain⟨TD,I⟩:=gx Ec (i:=(k:Int).toNat) cO;exact dT u iK cO cO (λ_ Gg=>gq u gK Gg I (aW aho u (C254 s TD (i:Int) _ hz (afV _ (kE I)) cO) λ_ _ u=>bD (λV=>⟨g6 (nG .i64) (by unfold rp;rw[ew (iw I V)]),u.drop.aG⟩) λV=>aO cO ⟨_,cO,k+1,rfl,rfl,cO,eh E I V,u⟩))
 have u:=u.drop;refine⟨λG x J=>∃j:Nat,x=hZ (j:Int)/\G=(kp #[40,41,123,125,59,44,61,60,33,43,45,42,47,37]).size-j/\j<=(kp #[40,41,123,125,59,44,61,60,33,43,45,42,47,37]).size/\(∀y∈(iX (kp #[40,41,123,125,59,44,61,60,33,43,45,42,47,37])).take j,decide ((y.toNat:Int)=c.toNat)=false)/\St w aX [] J,⟨_,0,rfl,rfl,l0 _,ei,u⟩,?_⟩;rintro G _ _ ⟨j,rfl,rfl,hj,U,u⟩ _;refine fu iC ?_;have Kh:(kp #[40,41,123,125,59,44,61,60,33,43,45,42,47,37]).size=14:=rfl;refine aR (aC (λzM=>?_) λzM=>?_)
 .obtain⟨e_x31,W⟩:∃O,(iX (kp #[40,41,123,125,59,44,61,60,33,43,45,42,47,37]))[(j:Int).toNat]?=some O:=⟨_,la (by rw[fh];omega)⟩;refine j8 iC cO W ?_;obtain⟨vv,pL⟩:∃O,(iX s)[(i:Int).toNat]?=some O:=⟨_,la (by rw[fh];omega)⟩;refine j8 iC cO pL ?_;obtain rfl:=n5.inj (pL.symm.trans hc);refine nZ (aC (λY=>?_) λY=>aO cO (have u:=u.drew;⟨_,cO,j+1,rfl,rfl,cO,eh U W (fV Y),u⟩));have u:=u.drew;have B:Ec.any (Da s i)=false:=iL (by rw[kO cO]at E;exact E)
  exact⟨g6 (nG .i64) (by unfold rp;rw[ej (by rw[B];simp),ew (iw W (ez Y))]),u.aG⟩
 have B:Ec.any (Da s i)=false:=iL (by rw[kO cO]at E;exact E);have M:=iL (g:=λx:UInt8=>decide ((x.toNat:Int)=c.toNat)) (by rw[kO (by rw[fh];omega)]at U;exact U);exact⟨g6 (nG .i64) (by unfold rp;rw[ej (by rw[B];simp),ej (by rw[M];simp)]),u.aG⟩
def C209(lv:Value)(l:List bU)(i:Int)(t:ByteArray)(w:World)(E:dD (λ_=>True) w lv l)(hn:l.length<=1000000):CR 209 [lv,hZ i,.string t] w (λv w'=>v=.bool (uq l i t)/\Ext w w'):=by
 have B:=St.start w;refine fj Tryz.func209 ?_;refine⟨λjv w'=>jv=.bool (uq l i t)/\w=w',cT (aC (λI=>aK fS (E.ext B.aG) (aR (aC (λV=>?_) λV=>⟨vb (by unfold uq;first|(rw[u];grind)|(rw[fV cO];rfl)|(rw[nt cO];simp)),rfl⟩))) λI=>⟨vb (by unfold uq;first|(rw[u];grind)|(rw[fV cO];rfl)|(rw[nt cO];simp)),rfl⟩),?_⟩
 .obtain⟨G,u⟩:=gx l (i:=(i).toNat) cO;refine aQ fS E cO u (λ_ sU=>bX G.text nU sU rfl rfl λ_ l8=>aD gK (l8.ext B.aG) (jP (aC (λZ=>?_) λZ=>⟨vb (by unfold uq;first|(rw[u];grind)|(rw[fV cO];rfl)|(rw[nt cO];simp)),rfl⟩)));refine aQ fS E cO u (λ_ U=>?_);exact bX G.kind lX U rfl rfl (λ_ J=>aD bL (J.ext B.aG) (bQ (aC (λrS=>aQ fS E cO u λ_ W=>bX G.kind lX W rfl rfl λ_ Bx=>aD bL (Bx.ext B.aG) (cT (aC (λrQ=>aQ fS E cO u λ_ Y=>bX G.kind lX Y rfl rfl λ_ M=>aD bL (M.ext B.aG) (gz ⟨vb (by unfold uq;first|(rw[u];grind)|(rw[fV cO];rfl)|(rw[nt cO];simp)),rfl⟩)) λrQ=>⟨vb (by unfold uq;first|(rw[u];grind)|(rw[fV cO];rfl)|(rw[nt cO];simp)),rfl⟩))) λrS=>⟨vb (by unfold uq;first|(rw[u];grind)|(rw[fV cO];rfl)|(rw[nt cO];simp)),rfl⟩)))
 rintro _ _ ⟨rfl,O⟩ _;subst O;exact⟨rfl,B.aG⟩
def C214(lv:Value)(l:List bU)(i:Int)(w:World)(B:dD (λ_=>True) w lv l)(hn:l.length<=1000000)(te:∀x∈l,0<=x.at_/\x.at_<=1000000/\x.text.size<=1000000):CR 214 [lv,hZ i] w (λv w'=>v=hZ (nM l i)/\Ext w w'):=by
 have u:=St.start w;refine pj Tryz.func214 (pl:=aw8) ?_;refine⟨λjv w'=>jv=.bool (decide (0<=i/\i<l.length))/\w=w',cT (aC (λ_=>aK fS (B.ext u.aG) (aR ⟨zi cO,rfl⟩)) λ_=>⟨XE cO,rfl⟩),?_⟩;rintro _ _ ⟨rfl,Y⟩ _;subst Y;refine aC (λlG=>?_) (λlG=>aK fS (B.ext u.aG) (aH (aC (λnz=>?_) λnz=>?_)))
 .obtain⟨Ft,M⟩:=gx l (i:=(i).toNat) cO;exact aQ fS B cO M (λ_ vg=>bX Ft.at_ lY vg rfl rfl λ_ W=>aD bL (W.ext u.aG) ⟨g6 (nG .i64) (by unfold nM;rw[ew cO,M]),u.aG⟩)
 .have J:l=[]:=s4.1 cO;subst J;exact⟨g6 (nG .i64) (by unfold nM;split<;>simp_all),u.aG⟩
 refine aK fS (B.ext u.aG) (ft cO ?_);obtain⟨I,E⟩:=gx l (i:=((l.length:Int)-1).toNat) cO;refine aQ fS B cO E (λ_ U=>bX I.at_ lY U rfl rfl λ_ xN=>have u:=u.drew;aD bL (xN.ext u.aG) (aK fS (B.ext u.aG) (ft cO (aQ fS B cO E λ_ O=>bX I.text nU O rfl rfl λ_ V=>aD gK (V.ext u.aG) (fu iC ?_)))));have hax:=te _ (kE E);refine aO cO ?_;have G:l.getLast? = some I:=by rw[List.getLast?_eq_getElem?,<- E];congr 1;omega
 have Z:(if 0<=i then l[i.toNat]? else none)=none:=by split;exact nt cO;rfl
 exact⟨g6 (nG .i64) (by unfold nM;rw[Z,G]),u.aG⟩
def numOf(s:ByteArray)(a k:Nat):Int:=(((iX s).drop a).take (k-a)).foldl (λn c=>if n<=4294967296 then 10*n+((c.toNat:Int)-48)else n) 0
theorem T6(s:ByteArray)(a:Nat):numOf s a a=0:=by unfold numOf;grind
theorem AD{s:ByteArray}{a k:Nat}{c:UInt8}(u:a<=k)(h:(iX s)[k]?=some c):numOf s a (k+1)=if numOf s a k<=4294967296 then 10*numOf s a k+((c.toNat:Int)-48)else numOf s a k:=by
 unfold numOf
 rw[show k+1-a=(k-a)+1 from cO,uH,Jo,show a+(k-a)=k from cO,h,J7,FQ]
 rfl
theorem afW{s:ByteArray}{a:Nat}:∀{k:Nat},a<=k->k<=s.size->(∀j c,a<=j->j<k->(iX s)[j]?=some c->48<=(c.toNat:Int)/\(c.toNat:Int)<=57)->0<=numOf s a k/\numOf s a k<=42949672969:=by
 intro k
 induction k with
 | zero=>
  grind[iX,numOf]
 | succ k u=>
  intro B E hd
  by_cases e:a=k+1
  .subst e;rw[T6];omega
  .have:=u cO cO λj c h1 h2=>hd j c h1 cO
   obtain⟨c,hc⟩:∃c,(iX s)[k]?=some c:=⟨_,la (by rw[fh];omega)⟩
   have h2:=hd k c cO cO hc
   rw[AD cO hc]
   omega
def m8(s:ByteArray):Nat->Nat->List bU->Option (List bU×Int×Int)
 | 0,_,_=>none
 | n+1,a,out=>match (iX s)[a]? with
  | none=>some (out,0,0)
  | some c=>
   if gN c.toNat=true then(if 16<xf tH s a-a then some ([],2,(a:Int))else(lO s (s.size+1) (xf tH s a)).bind λu=>m8 s n u (out++[⟨1,s.extract a (xf tH s a),0,a⟩]))
   else if kG c.toNat=true then(if 4294967296<numOf s a (xf xg s a)then some ([],4,(a:Int))else(lO s (s.size+1) (xf xg s a)).bind λu=>m8 s n u (out++[⟨2,s.extract a (xf xg s a),numOf s a (xf xg s a),a⟩]))
   else if rp s a c=0 then some ([],3,(a:Int))else(lO s (s.size+1) (a+(rp s a c).toNat)).bind λu=>m8 s n u (out++[⟨3,s.extract a (a+(rp s a c).toNat),0,a⟩])
def wQ(s:ByteArray):Option (List bU×Int×Int):=if 4000<s.size then some ([],2,4000)else(lO s (s.size+1) 0).bind λa=>m8 s (s.size+2) a []
theorem Rq{s:ByteArray}{n a:Nat}{out:List bU}{r:List bU×Int×Int}(h:m8 s n a out=some r):∃k,n=k+1:=by
 cases n with
 | zero=>cases h
 | succ k=>grind
def yX(s:ByteArray)(k a:Nat)(out:List bU)(R:List bU×Int×Int)(B:Int)(e:Nat)(n:Int):Prop:=a<e/\e<=s.size/\∃u,lO s (s.size+1) e=some u/\m8 s k u (out++[⟨B,s.extract a e,n,a⟩])=some R
section
variable {s:ByteArray}{k a:Nat}{c:UInt8}{out:List bU}{R:List bU×Int×Int}
theorem V1(h:m8 s (k+1) a out=some R)(u:s.size<=a):R=(out,0,0):=by
 unfold m8 at h;rw[nt (by rw[fh];exact u)]at h;grind
theorem HI(h:m8 s (k+1) a out=some R)(hc:(iX s)[a]?=some c)(u:gN c.toNat=true)(hb:16<xf tH s a-a):R=([],2,(a:Int)):=by
 unfold m8 at h;grind
theorem Db{e:Nat}{B n:Int}(h:((lO s (s.size+1) e).bind λu=>m8 s k u (out++[⟨B,s.extract a e,n,a⟩]))=some R)(h1:a<e)(h2:e<=s.size):yX s k a out R B e n:=by
 cases hp:lO s (s.size+1) e with
 | none=>grind
 | some u=>grind[yX]
theorem V2(h:m8 s (k+1) a out=some R)(hc:(iX s)[a]?=some c)(B:gN c.toNat=true)(hb:¬ 16<xf tH s a-a)(u:a<xf tH s a):yX s k a out R 1 (xf tH s a) 0:=by
 unfold m8 at h;rw[hc]at h;dsimp only at h;rw[ew B,ej hb]at h
 have:=rE hc;have h2:=Ro (s:=s) (a:=a) tH
 exact Db h u cO
theorem KT(h:m8 s (k+1) a out=some R)(hc:(iX s)[a]?=some c)(u:gN c.toNat=false)(hd:kG c.toNat=true)(hb:4294967296<numOf s a (xf xg s a)):R=([],4,(a:Int)):=by
 unfold m8 at h;grind
theorem aa6(h:m8 s (k+1) a out=some R)(hc:(iX s)[a]?=some c)(B:gN c.toNat=false)(hd:kG c.toNat=true)(hb:¬ 4294967296<numOf s a (xf xg s a))(u:a<xf xg s a):yX s k a out R 2 (xf xg s a) (numOf s a (xf xg s a)):=by
 unfold m8 at h;rw[hc]at h;dsimp only at h;rw[ej dI,ew hd,ej hb]at h
 have:=rE hc;have h2:=Ro (s:=s) (a:=a) xg
 exact Db h u cO
theorem V3(h:m8 s (k+1) a out=some R)(hc:(iX s)[a]?=some c)(u:gN c.toNat=false)(hd:kG c.toNat=false)(hb:rp s a c=0):R=([],3,(a:Int)):=by
 unfold m8 at h;grind
theorem aa7(s:ByteArray)(a:Nat)(c:UInt8):rp s a c=0\/rp s a c=1\/rp s a c=2:=by
 grind[rp]
theorem T7{s:ByteArray}{a:Nat}{c:UInt8}(h:(iX s)[a]?=some c):(a:Int)+rp s a c<=s.size:=by
 have B:=rE h
 unfold rp
 split
 .rename_i h2
  rw[wS]at h2
  obtain⟨t,ht,hb⟩:=h2
  have:t.size=2:=by
   have u:∀t∈Ec,t.size=2:=ee
   grind
  unfold Da at hb
  grind
 omega
theorem V4(h:m8 s (k+1) a out=some R)(hc:(iX s)[a]?=some c)(u:gN c.toNat=false)(hd:kG c.toNat=false)(hb:¬ rp s a c=0):yX s k a out R 3 (a+(rp s a c).toNat) 0:=by
 unfold m8 at h;rw[hc]at h;dsimp only at h;rw[ej dI,ej dI,ej hb]at h
 have h1:=aa7 s a c;have h2:=T7 hc
 exact Db h cO cO
end
theorem C130(s:ByteArray)(R:List bU×Int×Int)(w:World)(Vg:s.size<=1000000)(hr:wQ s=some R):CR 130 [.string s] w (λv w'=>∃o,v=.tuple #[o,hZ R.2.1,hZ R.2.2]/\kq (bE o R.1) w w'):=by
 have u:=St.start w;refine adD _ _ _ ?_;unfold S130;refine fu iC (cQ (aC (λjJ=>?_) λjJ=>?_))
 .have O:([],2,4000)=R:=by unfold wQ at hr;rw[ew cO]at hr;exact n5.inj hr
  subst O;exact⟨_,rfl,u.eK.fresh⟩
 have h4:s.size<=4000:=cO
 obtain⟨a0,ha0,Pp⟩:∃a0,lO s (s.size+1) 0=some a0/\m8 s (s.size+2) a0 []=some R:=by
  unfold wQ at hr;rw[ej cO]at hr;cases hq:lO s (s.size+1) 0 with
  | none=>rw[hq]at hr;cases hr
  | some a0=>rw[hq]at hr;exact⟨a0,rfl,hr⟩
 have aAh:=BY ha0 cO;refine aV ([]:List bU) u fS rfl rfl (dQ rfl) (λs_x12 _ u=>aW ahi u (C205 s 0 (s.size+1) a0 _ cO cO ha0) λ_ he u=>?_);refine⟨λmm o x w'=>∃(a:Nat) (out:List bU),x=hZ (a:Int)/\a<=s.size/\out.length<=a/\m8 s mm a out=some R/\St w aX [bE o out] w',⟨_,a0,[],rfl,aAh.2,l0 _,Pp,u⟩,?_⟩;rintro mm zj _ _ ⟨a,out,rfl,ha,Kh,hp,u⟩ _;obtain⟨k,rfl⟩:=Rq hp;refine fu iC (aR (aC (λl6=>pop (Yf _) (aN u ad5 λV5 _ u=>aJ (x:=(⟨0,(kp #[]),0,(a:Int)⟩:bU)) u ahx rfl rfl λ_ u=>⟨λto w'=>∃(kd:Int) (e:Nat) (n:Int),to=hZ (e:Int)/\yX s k a out R kd e n/\St w aX [bW V5 (j0 (⟨kd,kp #[],n,(a:Int)⟩:bU)),bE zj out] w',?_,?_⟩)) λl6=>?_))
 .obtain⟨iS,j1⟩:∃xx,(iX s)[(a:Int).toNat]?=some xx:=⟨_,la (by rw[fh];omega)⟩;refine j8 iC cO j1 ?_;have B:(iX s)[a]?=some iS:=j1;refine aW SB u (C206 _ _) (λ_ he u=>bD (λjK=>?_) λjK=>?_)
  .have G:=jK;refine aA lX (aT u bL (dQ rfl) (rfl) λ_ u=>?_);have u:=u.enc (cs':=j0 ({ (⟨0,(kp #[]),0,(a:Int)⟩:bU)with kind:=1}:bU)) rfl;have u:=u.p1.p1;refine⟨λmm x w'=>∃j:Nat,x=hZ (j:Int)/\mm=s.size-j/\a<=j/\j<=s.size/\xf tH s a=xf tH s j/\St w aX [bW V5 (j0 (⟨1,kp #[],0,(a:Int)⟩:bU)),bE zj out] w',⟨_,a,rfl,rfl,o6 _,ha,rfl,u⟩,?_⟩;rintro mm _ _ ⟨j,rfl,rfl,U,hj,J,u⟩ _;refine⟨λjv w'=>jv=.bool (match (iX s)[j]? with|some c=>tH c|none=>false)/\St w aX [bW V5 (j0 (⟨1,kp #[],0,(a:Int)⟩:bU)),bE zj out] w',fu iC (aR (aC (λrS=>?_) λrS=>⟨vb (by first|(rw[show(iX s)[j]?=some M from pL];show _=(gN M.toNat||kG M.toNat);rw[lI];rfl)|(rw[nt (by rw[fh];omega)])),u⟩)),?_⟩
   .obtain⟨M,pL⟩:∃xx,(iX s)[(j:Int).toNat]?=some xx:=⟨_,la (by rw[fh];omega)⟩;refine j8 iC cO pL ?_;have hcj0:(iX s)[j]?=some M:=pL;exact aW SB u (C206 _ _) (λ_ he u=>bD (λlI=>⟨vb (by first|(rw[show(iX s)[j]?=some M from pL];show _=(gN M.toNat||kG M.toNat);rw[lI];rfl)|(rw[nt (by rw[fh];omega)])),u⟩) λlI=>j8 iC cO pL (aW SC u (C207 _ _) λ_ he u=>⟨vb (by first|(rw[show(iX s)[j]?=some M from pL];show _=(gN M.toNat||kG M.toNat);rw[lI];rfl)|(rw[nt (by rw[fh];omega)])),u⟩))
   rintro _ _ ⟨rfl,u⟩ _;refine bD (λY=>?_) (λY=>?_)
   .refine aO cO ?_
    have Z:∃c,(iX s)[j]?=some c/\tH c=true:=by
     cases hc:(iX s)[j]? with
     | none=>rw[hc]at Y;cases Y
     | some c=>rw[hc]at Y;exact⟨c,rfl,Y⟩
    obtain⟨cj,Ed,V0⟩:=Z;have Cm:=rE Ed;exact⟨_,cO,j+1,rfl,rfl,cO,cO,J.trans (GF Ed V0),u⟩
   have W:xf tH s j=j:=by
    by_cases hjs:j<s.size
    .obtain⟨cj,Z⟩:∃c,(iX s)[j]?=some c:=⟨_,la (by rw[fh];exact hjs)⟩;rw[Z]at Y;exact GG Z Y
    .exact KS cO
   refine ft cO (cQ (aC (λxY=>?_) λxY=>?_))
   .have u:=u.drop.drop;have O:=HI hp B G (by rw[J,W];omega);subst O;exact⟨_,rfl,u.eK.fresh⟩
   have u:=u.p1.p1
   have hgt:a<j:=by
    rcases P5 a j with h|h
    .exact h
    .obtain rfl:j=a:=cO
     rw[B]at Y;have h9:tH iS=false:=Y;unfold tH at h9;rw[G]at h9;cases h9
   have E:=V2 hp B G (by rw[J,W];omega) (by rw[J,W];exact hgt);rw[J,W]at E;exact⟨1,j,0,rfl,E,u⟩
  have G:=jK;refine j8 iC cO j1 (aW SC u (C207 _ _) λ_ he u=>bD (λDx=>?_) λDx=>?_)
  .have I:=Dx;refine aA lX (aT u bL (dQ rfl) (rfl) λ_ u=>?_);have u:=u.enc (cs':=j0 ({ (⟨0,(kp #[]),0,(a:Int)⟩:bU)with kind:=2}:bU)) rfl;have u:=u.p1.p1;refine⟨λmm x w'=>∃j:Nat,x=hZ (j:Int)/\mm=s.size-j/\a<=j/\j<=s.size/\xf xg s a=xf xg s j/\(∀(i:Nat) (c:UInt8),a<=i->i<j->(iX s)[i]?=some c->48<=(c.toNat:Int)/\(c.toNat:Int)<=57)/\St w aX [bW V5 (j0 (⟨2,kp #[],(numOf s a j),(a:Int)⟩:bU)),bE zj out] w',⟨_,a,rfl,rfl,o6 _,ha,rfl,λ_ _ h1 _=>absurd h1 cO,by rw[T6];exact u⟩,?_⟩;rintro mm _ _ ⟨j,rfl,rfl,U,hj,J,hdg,u⟩ _
   refine⟨λjv w'=>jv=.bool (match (iX s)[j]? with|some c=>xg c|none=>false)/\St w aX [bW V5 (j0 (⟨2,kp #[],(numOf s a j),(a:Int)⟩:bU)),bE zj out] w',fu iC (aR (aC (λIt=>?_) λIt=>⟨vb (by first|(rw[show(iX s)[j]?=some aiG from Rr];rfl)|(rw[nt (by rw[fh];omega)])),u⟩)),?_⟩
   .obtain⟨aiG,Rr⟩:∃xx,(iX s)[(j:Int).toNat]?=some xx:=⟨_,la (by rw[fh];omega)⟩;exact j8 iC cO Rr (aW SC u (C207 _ _) λ_ he u=>⟨vb (by first|(rw[show(iX s)[j]?=some aiG from Rr];rfl)|(rw[nt (by rw[fh];omega)])),u⟩)
   rintro _ _ ⟨rfl,u⟩ _;refine bD (λV=>?_) (λV=>?_)
   .have Z:∃c,(iX s)[j]?=some c/\xg c=true:=by
     cases hc:(iX s)[j]? with
     | none=>rw[hc]at V;cases V
     | some c=>rw[hc]at V;exact⟨c,rfl,V⟩
    obtain⟨cj,Ed,V0⟩:=Z;have Cm:=rE Ed;have hcd:=V0;unfold xg kG at hcd;rw[decide_eq_true_eq]at hcd;have hnb:=afW U cO hdg;refine⟨λw'=>St w aX [bW V5 (j0 (⟨2,kp #[],(numOf s a (j+1)),(a:Int)⟩:bU)),bE zj out] w',aA sO (aB (v:=hZ (numOf s a j)) bL u.hb rfl (gz (aC (λxG=>?_) λxG=>?_))),?_⟩
    .refine aA sO (have u:=u.drew;aB (v:=hZ (numOf s a j)) bL u.hb rfl (El cO ?_));obtain⟨atd,aa9⟩:∃xx,(iX s)[(j:Int).toNat]?=some xx:=⟨_,la (by rw[fh];omega)⟩;refine j8 iC cO aa9 ?_;obtain rfl:=n5.inj (aa9.symm.trans (show(iX s)[(j:Int).toNat]?=some cj from Ed));refine aaH cO (VP axA Mh cO (aO cO (aA sO (aT u bL (dQ rfl) (rfl) λ_ u=>?_))));have u:=u.enc (cs':=j0 ({ (⟨2,kp #[],(numOf s a j),(a:Int)⟩:bU)with n:=((10*(numOf s a j))+((atd.toNat:Int)-48))}:bU)) rfl
     have u:=u.p1.p1;rw[AD U Ed,ew xG];exact u
    .have u:=u.p1.p1;rw[AD U Ed,ej xG];exact u
    intro _ u _;refine aO cO ?_
    exact⟨_,cO,j+1,rfl,rfl,cO,cO,J.trans (GF Ed V0),λi c h1 h2 h3=>by
     by_cases e:i=j
     .subst e;obtain rfl:=n5.inj (h3.symm.trans Ed);omega
     .exact hdg i c h1 cO h3,u⟩
   have W:xf xg s j=j:=by
    by_cases hjs:j<s.size
    .obtain⟨cj,Z⟩:∃c,(iX s)[j]?=some c:=⟨_,la (by rw[fh];exact hjs)⟩;rw[Z]at V;exact GG Z V
    .exact KS cO
   refine aA sO (aB (v:=hZ (numOf s a j)) bL u.hb rfl (cQ (aC (λahT=>?_) λahT=>?_)))
   .have u:=u.drop.drop;have O:=KT hp B G I (by rw[J,W];omega);subst O;exact⟨_,rfl,u.eK.fresh⟩
   have u:=u.p1.p1
   have hgt:a<j:=by
    rcases P5 a j with h|h
    .exact h
    .obtain rfl:j=a:=cO
     rw[B]at V;have h9:xg iS=false:=V;unfold xg at h9;rw[I]at h9;cases h9
   have E:=aa6 hp B G I (by rw[J,W];omega) (by rw[J,W];exact hgt);rw[J,W]at E;exact⟨2,j,_,rfl,E,u⟩
  have I:=Dx;have hsb:=aa7 s a iS;have hsi:=T7 B;refine aA lX (aT u bL (dQ rfl) (rfl) λ_ u=>have u:=u.enc (cs':=j0 ({ (⟨0,(kp #[]),0,(a:Int)⟩:bU)with kind:=3}:bU)) rfl;aW aoR u (C208 s a iS _ Vg B) λ_ he u=>aO cO (aH (aC (λate=>?_) λate=>?_)))
  .have u:=u.drop.drop;have O:=V3 hp B G I cO;subst O;exact⟨_,rfl,u.eK.fresh⟩
  have u:=u.p1.p1;have E:=V4 hp B G I cO;exact⟨3,a+(rp s a iS).toNat,0,by congr 1;omega,E,u⟩
 .rintro _ _ ⟨kd,e,n,rfl,E,u⟩ _;have aAi:=E;obtain⟨h1e0,h2e0,_⟩:=aAi;refine MF iC cO cO cO (aA nU (aT u gK (dQ rfl) (rfl) λ_ u=>have u:=u.enc (cs':=j0 ({ (⟨kd,kp #[],n,(a:Int)⟩:bU)with text:=(s.extract (a:Int).toNat (e:Int).toNat)}:bU)) rfl;aD ahx u.At (aV ([(⟨kd,s.extract (a:Int).toNat (e:Int).toNat,n,(a:Int)⟩:bU)]) u fS rfl rfl (dQ rfl) λalu _ u=>?_)));have afX:=u.dW;refine bI u.p2 fS afX (by simp;omega) ee (λalv _ u=>?_);have u:=u.p1.drop;obtain⟨h1e,h2e,a2,ha2,UW⟩:=E
  have aAj:=BY ha2 h2e;exact aW ahi u (C205 s e (s.size+1) a2 _ cO cO ha2) (λ_ _ u=>have u:=u.p1.drop;⟨k,cO,a2,_,rfl,aAj.2,by simp;omega,UW,u⟩)
 have O:=V1 hp cO;subst O;exact⟨_,rfl,u.fresh⟩
structure fU where
 l:(List cC)
 to:Int
 e:Int
 at_:Int
deriving DecidableEq
structure ek where
 l:SV
 to:Int
 e:Int
 at_:Int
instance:Flat ek where
 agg:=true
 sz:=4
 enc e:=[.slice e.l.a e.l.n e.l.cap,hZ e.to,hZ e.e,hZ e.at_]
 val e:=.agg [.slice e.l.a e.l.n e.l.cap,hZ e.to,hZ e.e,hZ e.at_].toArray
 pos:=ee
 len _:=rfl
 one a v h:=by grind[xo]
 oE _ _:=rfl
 oF h:=by cases h
instance:Deep fU ek where
 dr w s x:=∃(u:SV),s=(⟨u,x.to,x.e,x.at_⟩:ek)/\DL w (ir u) x.l
 ext h e:=by
  obtain⟨B,rfl,E⟩:=h
  exact⟨B,rfl,E.ext e⟩
def lS{w:World}{u:ek}{x:fU}(h:mi w u x):DL w (ir u.l) x.l:=by obtain⟨_,rfl,h⟩:=h;exact h
def rF(n:Int):List Int:=if n=0 then [15]else if n=1 then [14]else if n=2 then [10,11,12,13]else if n=3 then [5,6]else [7,8,9]
def EG:List ByteArray:=[⟨#[]⟩,⟨#[]⟩,⟨#[]⟩,⟨#[45]⟩,⟨#[33]⟩,⟨#[43]⟩,⟨#[45]⟩,⟨#[42]⟩,⟨#[47]⟩,⟨#[37]⟩,⟨#[61,61]⟩,⟨#[33,61]⟩,⟨#[60]⟩,⟨#[60,61]⟩,⟨#[38,38]⟩,⟨#[124,124]⟩]
def Om(k:Int):ByteArray:=(EG[k.toNat]?).getD ⟨#[]⟩
def gH(l:List bU)(i e:Int):fU:=⟨[],0,if (l.length:Int)<=i then 6 else e,nM l i⟩
abbrev atf(r:fU)(w:World):=tQ λv w'=>∃u:ek,v=ir u/\kq (dZ λw=>mi w u r) w w'
def alw(l:List bU)(rec:Int->Int->Int->Option fU):Prop:=∀(lv:Value) (i d n:Int) (r:fU) (w:World),dD (λ_=>True) w lv l->rec i d n=some r->0<=i/\i<=l.length->0<=d/\d<=12->0<=n/\n<=5->
 Calls hH 258 [lv,hZ i,hZ d,hZ n].toArray w (atf r w)/\(n=5->Calls hH 294 [lv,hZ i,hZ d].toArray w (atf r w))
structure js(l:List bU):Prop where
 n:l.length<=5000
 at_:∀x∈l,0<=x.at_/\x.at_<=1000000/\x.text.size<=1000000
def V6(l:List bU)(i:Int):Bool:=uq l i ⟨#[33]⟩||uq l i ⟨#[45]⟩
def pR(rec:Int->Int->Int->Option fU)(l:List bU)(i d:Int):Option fU:=
 match (if (l.length:Int)<=i then none else l[i.toNat]?)with
 | none=>some (gH l i 6)
 | some t=>if ((V6 l i||uq l i ⟨#[40]⟩)&&decide (d=12))=true then some (gH l i 7)
  else if V6 l i=true then(rec (i+1) (d+1) 5).bind λx=>if x.l.length<=10000 then some (if x.e≠0 then x else {x with l:=[⟨if t.text=⟨#[45]⟩then 3 else 4,0,⟨#[]⟩,t.at_⟩]++x.l})else none
  else if uq l i ⟨#[40]⟩=true then(rec (i+1) (d+1) 0).bind λx=>some (if x.e≠0 then x else if uq l x.to ⟨#[41]⟩=true then {x with to:=x.to+1}else gH l x.to 5)
  else if t.kind=2 then some ⟨[⟨1,t.n,⟨#[]⟩,t.at_⟩],i+1,0,0⟩
  else if (decide (t.kind=1)&&gY t.text)=true then some ⟨[⟨2,0,t.text,t.at_⟩],i+1,0,0⟩
  else some (gH l i 5)
def GH(l:List bU)(to n:Int)(k:Nat):Int:=((rF n).take k).foldl (λop f=>if uq l to (Om f)=true then f else op) 0
def KU(l:List bU)(to n:Int):Int:=GH l to n (rF n).length
theorem I0{l:List bU}{to n:Int}{k:Nat}{f:Int}(h:(rF n)[k]?=some f):GH l to n (k+1)=if uq l to (Om f)=true then f else GH l to n k:=by
 unfold GH;rw[uH,h,J7,FQ];rfl
def wR(rec:Int->Int->Int->Option fU)(l:List bU)(d n:Int):Nat->fU->Option fU
 | 0,_=>none
 | k+1,x=>if x.e≠0 then some x else if KU l x.to n=0 then some x else match (if 0<=x.to then l[x.to.toNat]? else none)with
  | none=>none
  | some t=>match rec (x.to+1) d (n+1)with
   | none=>none
   | some y=>if y.e≠0 then some y else if x.l.length+y.l.length<=10000 then
     (if n=2 then some ⟨[⟨KU l x.to n,0,⟨#[]⟩,t.at_⟩]++x.l++y.l,y.to,0,0⟩else wR rec l d n k ⟨[⟨KU l x.to n,0,⟨#[]⟩,t.at_⟩]++x.l++y.l,y.to,0,0⟩)else none
def I1(l:List bU):Nat->Int->Int->Int->Option fU
 | 0,_,_,_=>none
 | k+1,i,d,n=>if n=5 then pR (I1 l k) l i d else(I1 l k i d (n+1)).bind (wR (I1 l k) l d n k)
def aba{n:Int}{k:Nat}{f:Int}(h:(rF n)[k]?=some f):5<=f/\f<=15:=by
 have u:=kE h
 unfold rF at u
 grind
section
variable {rec:Int->Int->Int->Option fU}{l:List bU}{i d n:Int}{r x y:fU}{t:bU}{k:Nat}
theorem Rs(h:pR rec l i d=some r)(u:(l.length:Int)<=i):r=gH l i 6:=by
 unfold pR at h;grind
theorem On(h:pR rec l i d=some r)(u:¬ (l.length:Int)<=i)(ht:l[i.toNat]?=some t)(hd:((V6 l i||uq l i ⟨#[40]⟩)&&decide (d=12))=true):r=gH l i 7:=by
 unfold pR at h;grind
theorem V7(h:pR rec l i d=some r)(B:¬ (l.length:Int)<=i)(ht:l[i.toNat]?=some t)(hd:((V6 l i||uq l i ⟨#[40]⟩)&&decide (d=12))=false)(u:V6 l i=true) :
  ∃x,rec (i+1) (d+1) 5=some x/\x.l.length<=10000/\r=if x.e≠0 then x else {x with l:=[⟨if t.text=⟨#[45]⟩then 3 else 4,0,⟨#[]⟩,t.at_⟩]++x.l}:=by
 unfold pR at h;rw[ej B,ht]at h;dsimp only at h;rw[ej dI,ew u]at h
 cases hr:rec (i+1) (d+1) 5 with
 | none=>grind
 | some x=>
  grind
theorem Oo(h:pR rec l i d=some r)(B:¬ (l.length:Int)<=i)(ht:l[i.toNat]?=some t)(hd:((V6 l i||uq l i ⟨#[40]⟩)&&decide (d=12))=false)(E:V6 l i=false)(u:uq l i ⟨#[40]⟩=true) :
  ∃x,rec (i+1) (d+1) 0=some x/\r=if x.e≠0 then x else if uq l x.to ⟨#[41]⟩=true then {x with to:=x.to+1}else gH l x.to 5:=by
 unfold pR at h;rw[ej B,ht]at h;dsimp only at h;rw[ej dI,ej dI,ew u]at h
 cases hr:rec (i+1) (d+1) 0 with
 | none=>grind
 | some x=>grind
theorem Oq(h:pR rec l i d=some r)(E:¬ (l.length:Int)<=i)(ht:l[i.toNat]?=some t)(hd:((V6 l i||uq l i ⟨#[40]⟩)&&decide (d=12))=false)(u:V6 l i=false)(B:uq l i ⟨#[40]⟩=false) :
  r=if t.kind=2 then⟨[⟨1,t.n,⟨#[]⟩,t.at_⟩],i+1,0,0⟩else if (decide (t.kind=1)&&gY t.text)=true then⟨[⟨2,0,t.text,t.at_⟩],i+1,0,0⟩else gH l i 5:=by
 unfold pR at h;grind
theorem Rt(h:wR rec l d n k x=some r):∃j,k=j+1:=by
 cases k with
 | zero=>cases h
 | succ j=>grind
theorem afY(h:wR rec l d n (k+1) x=some r)(u:x.e≠0):r=x:=by
 unfold wR at h;grind
theorem abb(h:wR rec l d n (k+1) x=some r)(u:¬ x.e≠0)(B:KU l x.to n=0):r=x:=by
 unfold wR at h;grind
theorem abc(h:wR rec l d n (k+1) x=some r)(B:¬ x.e≠0)(u:¬ KU l x.to n=0):∃t y,0<=x.to/\l[x.to.toNat]?=some t/\rec (x.to+1) d (n+1)=some y/\(y.e≠0->r=y)/\
  (¬ y.e≠0->x.l.length+y.l.length<=10000/\(n=2->r=⟨[⟨KU l x.to n,0,⟨#[]⟩,t.at_⟩]++x.l++y.l,y.to,0,0⟩)/\(¬ n=2->wR rec l d n k ⟨[⟨KU l x.to n,0,⟨#[]⟩,t.at_⟩]++x.l++y.l,y.to,0,0⟩=some r)):=by
 unfold wR at h;grind
theorem aiH(h:I1 l (k+1) i d 5=some r):pR (I1 l k) l i d=some r:=by grind[pR,I1]
theorem atg(h:I1 l (k+1) i d n=some r)(u:¬ n=5):∃x,I1 l k i d (n+1)=some x/\wR (I1 l k) l d n k x=some r:=by
 unfold I1 at h;rw[ej u]at h
 cases hx:I1 l k i d (n+1)with
 | none=>grind
 | some x=>grind
end
def wT(l:List bU)(i:Int):Option (List cC×Int×Int×Int):=if i<0 then some ([],0,1,0)else(I1 l 10000 i 0 0).bind λx=>
 if x.e≠0 then some ([],0,x.e,x.at_)else match Ah x.l,l[i.toNat]? with
  | some t,some k=>if x.l.length<=10000 then(if 12<t.depth then some ([],0,7,k.at_)else if 40<x.l.length then some ([],0,2,k.at_)else some (x.l,x.to,0,0))else none
  | _,_=>none
def Ru(n:Int):(rF n).length<=4:=by
 grind[rF]
def C295(n:Int)(w:World)(hn:0<=n/\n<=4):CR 295 [hZ n] w (λv w'=>kq (bE v (rF n)) w w'):=by
 have u:=St.start w;refine fj Tryz.func295 ?_;refine aV ([15]:List Int) u cS rfl rfl (dQ rfl) (λU _ u=>aV ([14]:List Int) u cS rfl rfl (dQ rfl) λY _ u=>aV ([10,11,12,13]:List Int) u cS rfl rfl (dQ rfl) λQm _ u=>aV ([5,6]:List Int) u cS rfl rfl (dQ rfl) λV _ u=>aV ([7,8,9]:List Int) u cS rfl rfl (dQ rfl) λZ _ u=>?_);obtain⟨G,rfl⟩:=u.p4.fN;obtain⟨J,rfl⟩:=u.p3.fN;obtain⟨I,rfl⟩:=u.p2.fN;obtain⟨M,rfl⟩:=u.p1.fN;obtain⟨O,rfl⟩:=u.fN;refine aV ([G,J,I,M,O]) u nx rfl rfl (dQ rfl) (λW _ u=>?_)
 have u:=(((((((((((u.aea (α:=Int)).p6).p1).Fh).p5).p1).Fh).p4).p1).Fh).p3).p1;have u:=u.Fh.p2.p1.Fh;obtain rfl|rfl|rfl|rfl|rfl:n=0\/n=1\/n=2\/n=3\/n=4:=cO
 .have B:=u.Bh;exact dT u.p1 nx ee ei (λ_ E=>gq u.p1 ey E (show _=some G from rfl) (have u:=u.split;u.fresh))
 .have B:=u.Bh;exact dT u.p1 nx ee ei (λ_ E=>gq u.p1 ey E (show _=some J from rfl) (have u:=u.split.drop.split;u.fresh))
 .have B:=u.Bh;exact dT u.p1 nx ee ei (λ_ E=>gq u.p1 ey E (show _=some I from rfl) (have u:=u.split.drop.split.drop.split;u.fresh))
 .have B:=u.Bh;exact dT u.p1 nx ee ei (λ_ E=>gq u.p1 ey E (show _=some M from rfl) (have u:=u.split.drop.split.drop.split.drop.split;u.fresh))
 have B:=u.Bh;exact dT u.p1 nx ee ei (λ_ E=>gq u.p1 ey E (show _=some O from rfl) (have u:=u.split.drop.split.drop.split.drop.split.drop.split;u.fresh))
def C296(k:Int)(w:World)(M:0<=k/\k<=15):CR 296 [hZ k] w (λv w'=>v=.string (Om k)/\Ext w w'):=by
 have u:=St.start w;refine fj Tryz.func296 ?_;refine aV EG u iK rfl rfl (dQ rfl) (λG _ u=>?_);have J:EG.length=16:=rfl;obtain⟨I,E⟩:=gx EG (i:=k.toNat) cO;refine dT u iK cO cO (λ_ B=>gq u gK B E ?_);refine⟨?_,u.drop.aG⟩;unfold Om;rw[E];rfl
def C320(lv:Value)(l:List bU)(i e:Int)(w:World)(E:dD (λ_=>True) w lv l)(B:js l):CR 320 [lv,hZ i,hZ e] w (λv w'=>∃sh:ek,v=ir sh/\kq (dZ λw=>mi w sh (gH l i e)) w w'):=by
 have V:=B.n;have O:l.length<=1000000:=cO
 have M:=B.at_;have u:=St.start w;refine adV _ _ _ _ _ ?_;unfold S320;refine aN u uf (λU G u=>have u:=u.enc (cs':=j0 (⟨bY,0,0,0⟩:ek)) rfl;⟨λJ w'=>J=hZ (if (l.length:Int)<=i then 6 else e)/\G=w',aK fS (E.ext u.aG) (cT (aC (λ_=>⟨by rw[ew cO],rfl⟩) λ_=>⟨by rw[ej cO],rfl⟩)),?_⟩);rintro _ _ ⟨rfl,I⟩ _;subst I;exact aW HY u (C214 _ l i _ (E.ext u.aG) O M) (λ_ _ u=>pop (Qe _ _) (aJ (x:=(⟨bY,0,(if (l.length:Int)<=i then 6 else e),(nM l i)⟩:ek)) u gm rfl rfl λ_ u=>aD gm u.At (have u:=u.fk (Φ:=(λw=>mi w (⟨bY,0,(if (l.length:Int)<=i then 6 else e),(nM l i)⟩:ek) (⟨[],0,(if (l.length:Int)<=i then 6 else e),(nM l i)⟩:fU))) (λ_=>⟨_,rfl,DL.nil _⟩);have u:=u.p1.drop;⟨_,rfl,u.fresh⟩)))
def C294(l:List bU)(rec:Int->Int->Int->Option fU)(lv:Value)(i d:Int)(r:fU)(w:World)(E:dD (λ_=>True) w lv l)(Y:js l)(HR:alw l rec)(h0:0<=i/\i<=l.length)(hd:0<=d/\d<=12)(hr:pR rec l i d=some r):CR 294 [lv,hZ i,hZ d] w (λv w'=>∃sh:ek,v=ir sh/\kq (dZ λw=>mi w sh r) w w'):=by
 have EA:=Y.n;have hn:l.length<=1000000:=cO
 have te:=Y.at_;have u:=St.start w;refine adR _ _ _ _ _ ?_;unfold S294;refine aN u uf (λRd _ u=>have u:=u.enc (cs':=j0 (⟨bY,0,0,0⟩:ek)) rfl;aK fS (E.ext u.aG) (cT (aC (λeE=>?_) λeE=>?_)))
 .refine dO SJ (C320 _ l i 6 _ (E.ext u.aG) Y) ?_;rintro _ _ ⟨alz,rfl,O⟩;have u:=u.made O;obtain⟨BZ,Rv,_⟩:=u.dZ;subst Rv;refine aJ (x:=(⟨BZ,(gH l i 6).to,(gH l i 6).e,(gH l i 6).at_⟩:ek)) u.p1 gm rfl rfl (λ_ u=>aD gm u.At ?_);have I:r=(⟨(gH l i 6).l,(gH l i 6).to,(gH l i 6).e,(gH l i 6).at_⟩:fU):=Rs hr cO;rw[I];have u:=u.p1.dF (Ψ:=(λw=>mi w (⟨BZ,(gH l i 6).to,(gH l i 6).e,(gH l i 6).at_⟩:ek) (⟨(gH l i 6).l,(gH l i 6).to,(gH l i 6).e,(gH l i 6).at_⟩:fU))) (λ_ h=>⟨_,rfl,lS h⟩)
  have u:=u.p1.drop;exact⟨_,rfl,u.fresh⟩
 obtain⟨t,ht⟩:=gx l (i:=i.toNat) cO;have hta:=te t (kE ht);refine⟨λW w'=>W=.bool (V6 l i)/\St w aX [bW Rd (j0 (⟨bY,0,0,0⟩:ek))] w',aW wE u (C209 _ l i (kp #[33]) _ (E.ext u.aG) hn) (λ_ _ u=>bD (λiG=>⟨vb (by unfold V6;rw[iG];rfl),u⟩) λiG=>aW wE u (C209 _ l i (kp #[45]) _ (E.ext u.aG) hn) λ_ _ u=>⟨vb (by unfold V6;rw[iG];rfl),u⟩),?_⟩;rintro _ _ ⟨rfl,u⟩ _;refine aW wE u (C209 _ l i (kp #[40]) _ (E.ext u.aG) hn) (λ_ he u=>⟨λW w'=>W=.bool ((V6 l i||uq l i (kp #[40]))&&decide (d=12))/\St w aX [bW Rd (j0 (⟨bY,0,0,0⟩:ek))] w',bD (λG=>aH ⟨vb (by first|(rw[G];simp;done)|(rw[G,M];simp;done)|(rw[G];rfl)|(rw[G,M];rfl)),u⟩) (λG=>bD (λM=>aH ⟨vb (by first|(rw[G];simp;done)|(rw[G,M];simp;done)|(rw[G];rfl)|(rw[G,M];rfl)),u⟩) λM=>⟨vb (by first|(rw[G];simp;done)|(rw[G,M];simp;done)|(rw[G];rfl)|(rw[G,M];rfl)),u⟩),?_⟩)
 rintro _ _ ⟨rfl,u⟩ _;refine bD (λU=>?_) (λU=>bD (λG=>?_) λG=>bD (λM=>?_) λM=>?_)
 .refine dO SJ (C320 _ l i 7 _ (E.ext u.aG) Y) ?_;rintro _ _ ⟨aAl,rfl,O⟩;have u:=u.made O;obtain⟨Uc,alA,_⟩:=u.dZ;subst alA;refine aJ (x:=(⟨Uc,(gH l i 7).to,(gH l i 7).e,(gH l i 7).at_⟩:ek)) u.p1 gm rfl rfl (λ_ u=>aD gm u.At ?_);have I:r=(⟨(gH l i 7).l,(gH l i 7).to,(gH l i 7).e,(gH l i 7).at_⟩:fU):=On hr cO ht U;rw[I];have u:=u.p1.dF (Ψ:=(λw=>mi w (⟨Uc,(gH l i 7).to,(gH l i 7).e,(gH l i 7).at_⟩:ek) (⟨(gH l i 7).l,(gH l i 7).to,(gH l i 7).e,(gH l i 7).at_⟩:fU))) (λ_ h=>⟨_,rfl,lS h⟩)
  have u:=u.p1.drop;exact⟨_,rfl,u.fresh⟩
 .refine aO cO (aO cO ?_);have aAm:¬ d=12:=λh=>by rw[G,ez h]at U;cases U
  obtain⟨B,V,hxl,J⟩:=V7 hr cO ht U G;refine dO ahs ((HR _ (i+1) (d+1) 5 B _ (E.ext u.aG) V cO cO cO).2 rfl) ?_;rintro _ _ ⟨aAn,rfl,O⟩;have u:=u.made O;obtain⟨EH,alB,_⟩:=u.dZ;subst alB;refine aN u uf (λCH _ u=>have u:=u.enc (cs':=j0 (⟨bY,0,0,0⟩:ek)) rfl;aJ (x:=(⟨EH,B.to,B.e,B.at_⟩:ek)) u gm rfl rfl λw13 u=>aA vc (aB (v:=hZ B.e) jU u.hb rfl (bQ (aC (λxK=>?_) λxK=>⟨λW w'=>W=hZ (if t.text=kp #[45]then 3 else 4)/\w13=w',aQ fS (E.ext u.aG) cO ht (λ_ Bs=>bX t.text nU Bs rfl rfl λ_ NY=>aD gK NY (jP (aC (λIt=>⟨by rw[ew It],rfl⟩) λIt=>⟨by rw[ej It],rfl⟩))),?_⟩))))
  .refine aD gm u.At (aJ (x:=(⟨EH,B.to,B.e,B.at_⟩:ek)) u.p2 gm rfl rfl λ_ u=>aD gm u.At ?_);have I:r=(⟨B.l,B.to,B.e,B.at_⟩:fU):=J.trans (ew xK);rw[I];have u:=u.p2.dF (Ψ:=(λw=>mi w (⟨EH,B.to,B.e,B.at_⟩:ek) (⟨B.l,B.to,B.e,B.at_⟩:fU))) (λ_ h=>⟨_,rfl,lS h⟩);have u:=u.p1.drop.p1.drop;exact⟨_,rfl,u.fresh⟩
  rintro _ _ ⟨rfl,hw⟩ _;subst hw;obtain⟨op,aiI⟩:∃op,op=(if t.text=kp #[45]then(3:Int)else 4):=⟨_,rfl⟩;rw[<- aiI];refine aQ fS (E.ext u.aG) cO ht (λ_ Gi=>bX t.at_ lY Gi rfl rfl λ_ MU=>aD bL MU (pop (Fb _ _) (aV ([(⟨op,0,(kp #[]),t.at_⟩:cC)]) u il rfl rfl (dQ rfl) λs_x66 _ u=>aA sP (aB (v:=ir (EH:SV)) jC u.p1.hb rfl ?_))));have alC:=(DL.flat (lS u.p2.dZ));refine bI u il alC (by simp;omega) ee (λaiv _ u=>aA sP ?_);obtain⟨Rw,rfl⟩:=u.fN;refine aT u.p1 jC (dQ rfl) (rfl) (λ_ u=>have u:=u.enc (cs':=j0 (⟨Rw,B.to,B.e,B.at_⟩:ek)) rfl;aD gm u.At (aJ (x:=(⟨Rw,B.to,B.e,B.at_⟩:ek)) u.p3 gm rfl rfl λ_ u=>aD gm u.At ?_))
  have I:r=(⟨([(⟨op,0,(kp #[]),t.at_⟩:cC)]++B.l),B.to,B.e,B.at_⟩:fU):=by rw[J,ej xK,<- aiI]
  rw[I];have u:=u.p2.freeze.dF (Ψ:=(λw=>mi w (⟨Rw,B.to,B.e,B.at_⟩:ek) (⟨([(⟨op,0,(kp #[]),t.at_⟩:cC)]++B.l),B.to,B.e,B.at_⟩:fU))) (λ_ h=>⟨_,rfl,DL.jZ h⟩);have u:=u.p1.drop.p1.drop.p1.drop;exact⟨_,rfl,u.fresh⟩
 .refine aO cO (aO cO ?_);have aAm:¬ d=12:=λh=>by rw[G,M,ez h]at U;cases U
  obtain⟨B,V,J⟩:=Oo hr cO ht U G M;refine dO SF ((HR _ (i+1) (d+1) 0 B _ (E.ext u.aG) V cO cO cO).1) ?_;rintro _ _ ⟨aAo,rfl,O⟩;have u:=u.made O;obtain⟨Z,alD,_⟩:=u.dZ;subst alD;refine aN u uf (λYt _ u=>have u:=u.enc (cs':=j0 (⟨bY,0,0,0⟩:ek)) rfl;aJ (x:=(⟨Z,B.to,B.e,B.at_⟩:ek)) u gm rfl rfl λ_ u=>aA vc (aB (v:=hZ B.e) jU u.hb rfl (bQ (aC (λUd=>?_) λUd=>aA pD (aB (v:=hZ B.to) bL u.hb rfl (aW wE u (C209 _ l B.to (kp #[41]) _ (E.ext u.aG) hn) λ_ he u=>bT (bD (λUe=>?_) λUe=>?_)))))))
  .refine aD gm u.At (aJ (x:=(⟨Z,B.to,B.e,B.at_⟩:ek)) u.p2 gm rfl rfl λ_ u=>aD gm u.At ?_);have I:r=(⟨B.l,B.to,B.e,B.at_⟩:fU):=J.trans (ew Ud);rw[I];have u:=u.p2.dF (Ψ:=(λw=>mi w (⟨Z,B.to,B.e,B.at_⟩:ek) (⟨B.l,B.to,B.e,B.at_⟩:fU))) (λ_ h=>⟨_,rfl,lS h⟩);have u:=u.p1.drop.p1.drop;exact⟨_,rfl,u.fresh⟩
  .refine aA pD (aB (v:=hZ B.to) bL u.hb rfl (dO SJ (C320 _ l B.to 5 _ (E.ext u.aG) Y) ?_));rintro _ _ ⟨aAp,rfl,O⟩;have u:=u.made O;obtain⟨Uf,alE,_⟩:=u.dZ;subst alE;refine aJ (x:=(⟨Uf,(gH l B.to 5).to,(gH l B.to 5).e,(gH l B.to 5).at_⟩:ek)) u.p3 gm rfl rfl (λ_ u=>aD gm u.At ?_);have I:r=(⟨(gH l B.to 5).l,(gH l B.to 5).to,(gH l B.to 5).e,(gH l B.to 5).at_⟩:fU):=J.trans ((ej Ud).trans (ej (by simpa using Ue)));rw[I];have u:=u.p1.dF (Ψ:=(λw=>mi w (⟨Uf,(gH l B.to 5).to,(gH l B.to 5).e,(gH l B.to 5).at_⟩:ek) (⟨(gH l B.to 5).l,(gH l B.to 5).to,(gH l B.to 5).e,(gH l B.to 5).at_⟩:fU))) (λ_ h=>⟨_,rfl,lS h⟩)
   have u:=u.p1.drop.p1.drop.p1.drop;exact⟨_,rfl,u.fresh⟩
  refine aA pD (aB (v:=hZ B.to) bL u.hb rfl ?_);have tS:=tI (l:=l) (i:=B.to) (t:=kp #[41]) (by simpa using Ue);refine aO cO (aA pD (aT u bL (dQ rfl) (rfl) λ_ u=>have u:=u.enc (cs':=j0 (⟨Z,(B.to+1),B.e,B.at_⟩:ek)) rfl;aD gm u.At (aJ (x:=(⟨Z,(B.to+1),B.e,B.at_⟩:ek)) u.p2 gm rfl rfl λ_ u=>aD gm u.At ?_)));have I:r=(⟨B.l,(B.to+1),B.e,B.at_⟩:fU):=J.trans ((ej Ud).trans (ew (by simpa using Ue)));rw[I];have u:=u.p2.dF (Ψ:=(λw=>mi w (⟨Z,(B.to+1),B.e,B.at_⟩:ek) (⟨B.l,(B.to+1),B.e,B.at_⟩:fU))) (λ_ h=>⟨_,rfl,lS h⟩)
  have u:=u.p1.drop.p1.drop;exact⟨_,rfl,u.fresh⟩
 have Zw:=Oq hr cO ht U G M;refine aQ fS (E.ext u.aG) cO ht (λ_ alF=>bX t.kind lX alF rfl rfl λ_ alG=>aD bL alG (aH (aC (λKV=>?_) λKV=>⟨λW w'=>W=.bool (decide (t.kind=1)&&gY t.text)/\St w aX [bW Rd (j0 (⟨bY,0,0,0⟩:ek))] w',aQ fS (E.ext u.aG) cO ht (λ_ alH=>bX t.kind lX alH rfl rfl λ_ alI=>aD bL alI (aH (aC (λAq=>aQ fS (E.ext u.aG) cO ht λ_ alJ=>bX t.text nU alJ rfl rfl λ_ alK=>aD gK alK (aW uY u (C211 _ _ cO) λ_ _ u=>⟨vb (by rw[ez Aq];rfl),u⟩)) λAq=>⟨vb (by rw[fV Aq];rfl),u⟩))),?_⟩)))
 .refine aQ fS (E.ext u.aG) cO ht (λ_ alL=>bX t.n sO alL rfl rfl λ_ alM=>have u:=u.drew;aD bL alM (aQ fS (E.ext u.aG) cO ht λ_ alN=>bX t.at_ lY alN rfl rfl λ_ QJ=>aD bL QJ (pop (J1 _ _ _) (aO cO (aV ([(⟨1,t.n,(kp #[]),t.at_⟩:cC)]) u il rfl rfl (dQ rfl) λaAq _ u=>?_)))));obtain⟨Ug,rfl⟩:=u.fN;refine pop (Ab _ _ _ _) (aJ (x:=(⟨Ug,(i+1),0,0⟩:ek)) u.p1 gm rfl rfl λ_ u=>aD gm u.At ?_);have I:r=(⟨[(⟨1,t.n,(kp #[]),t.at_⟩:cC)],(i+1),0,0⟩:fU):=Zw.trans (ew KV)
  rw[I];have u:=u.p1.freeze.dF (Ψ:=(λw=>mi w (⟨Ug,(i+1),0,0⟩:ek) (⟨[(⟨1,t.n,(kp #[]),t.at_⟩:cC)],(i+1),0,0⟩:fU))) (λ_ h=>⟨_,rfl,DL.jZ h⟩);have u:=u.p1.drop;exact⟨_,rfl,u.fresh⟩
 rintro _ _ ⟨rfl,u⟩ _;refine bD (λRx=>?_) (λRx=>?_)
 .refine aQ fS (E.ext u.aG) cO ht (λ_ alO=>bX t.text nU alO rfl rfl λ_ alP=>have u:=u.drew;aD gK alP (aQ fS (E.ext u.aG) cO ht λ_ alQ=>bX t.at_ lY alQ rfl rfl λ_ QK=>aD bL QK (pop (J2 _ _ _) (aO cO (aV ([(⟨2,0,t.text,t.at_⟩:cC)]) u il rfl rfl (dQ rfl) λaAr _ u=>?_)))));obtain⟨Uh,rfl⟩:=u.fN;refine pop (Ab _ _ _ _) (aJ (x:=(⟨Uh,(i+1),0,0⟩:ek)) u.p1 gm rfl rfl λ_ u=>aD gm u.At ?_);have I:r=(⟨[(⟨2,0,t.text,t.at_⟩:cC)],(i+1),0,0⟩:fU):=Zw.trans ((ej KV).trans (ew Rx))
  rw[I];have u:=u.p1.freeze.dF (Ψ:=(λw=>mi w (⟨Uh,(i+1),0,0⟩:ek) (⟨[(⟨2,0,t.text,t.at_⟩:cC)],(i+1),0,0⟩:fU))) (λ_ h=>⟨_,rfl,DL.jZ h⟩);have u:=u.p1.drop;exact⟨_,rfl,u.fresh⟩
 refine dO SJ (C320 _ l i 5 _ (E.ext u.aG) Y) ?_;rintro _ _ ⟨avI,rfl,O⟩;have u:=u.made O;obtain⟨Ou,af0,_⟩:=u.dZ;subst af0;refine aJ (x:=(⟨Ou,(gH l i 5).to,(gH l i 5).e,(gH l i 5).at_⟩:ek)) u.p1 gm rfl rfl (λ_ u=>aD gm u.At ?_);have I:r=(⟨(gH l i 5).l,(gH l i 5).to,(gH l i 5).e,(gH l i 5).at_⟩:fU):=Zw.trans ((ej KV).trans (ej (by simpa using Rx)));rw[I];have u:=u.p1.dF (Ψ:=(λw=>mi w (⟨Ou,(gH l i 5).to,(gH l i 5).e,(gH l i 5).at_⟩:ek) (⟨(gH l i 5).l,(gH l i 5).to,(gH l i 5).e,(gH l i 5).at_⟩:fU))) (λ_ h=>⟨_,rfl,lS h⟩)
 have u:=u.p1.drop;exact⟨_,rfl,u.fresh⟩
end Go.Proofs.YtpdlpabnlkofmaaGreatDoor

/-
  Part 5.
-/
import Derived.Test.YtpdlpabnlkofmaaGreatDoorR4x4
set_option maxHeartbeats 8000000
set_option linter.all false
set_option maxRecDepth 100000
open Go.Fw.Flat renaming val->ia,enc->j0,sz->mv,len->xM,pos->V1
open ByteArray renaming mk->kp
open List renaming getElem?_eq_some_iff->kE,mem_of_getElem?->kO,take_of_length_le->kW,getElem?_eq_getElem->la,length_append->lY,length_take->l0,length_singleton->mf,getElem?_eq_none->mY,length_map->n0,append_assoc->n3,getD_eq_getElem?_getD->ob,length_cons->oj,mem_cons_self->oD,append_nil->o6,getElem?_map->pd,mem_cons_of_mem->qb,replicate->qW,length_eq_zero_iff->r6,mem_cons->sl,take_add_one->ta,range->uT,any_eq_true->wY,foldl_append->CO,getElem?_range->FY,getElem?_drop->HZ,range_succ->Ie,getElem?_take->J1,flatMap_append->LB
open Nat renaming zero_le->l1,le_refl->o1,le_trans->wc,le_of_ble_eq_true->Bq,lt_succ_self->Lo,lt_or_ge->N7,mul_pos->abe
open Go.Instr renaming build->l2,sliceAt->n4,sliceBounds->vw,box->zT
open Go.Fw.Deep renaming dr->mG
open Option renaming bind_some->mO,some->oe,toList_some->H3
open Go.Value renaming int->nf,slice->x6
open Int renaming toNat_natCast->pQ
open Decidable renaming not_not->u1
open Bool renaming true_and->yk,not_false->NY
namespace Go.Proofs.YtpdlpabnlkofmaaGreatDoor
open Go.Fw
def lx(l:List bI)(c:Int):Option Int:=(l.reverse.find? λx=>decide (x.kind=3/\x.cell=c)).map (·.n)
def C307(y sv:Value)(b:Nat)(xs:List bI)(J:Nat->hM)(I:hM)(w:World)(hn:xs.length<=1073741824)
  (E:∀k W,J k W->Cell W b 0 sv/\dA (λ_=>True) W sv xs) (B:J 0 w)
  (U:∀k x W,xs.reverse[k]?=some x->J k W->kH hH y [hZ ((xs.length:Int)-1-k),ia x] W λv O=>(v=.bool true/\J (k+1) O)\/(v=.bool false/\I O)) :
  CR 307 [y,.pointer (some ⟨b,0,none⟩)] w (λ_ W=>J xs.length W\/I W):=by
 refine ab1 _ _ _ _ ?_;unfold S307;refine bM iL (E 0 w B).1 (aK fS (E 0 w B).2 (fg cK ?_));refine⟨λm x u=>∃k:Nat,x=hZ ((xs.length:Int)-1-k)/\m=xs.length-k/\k<=xs.length/\J k u,⟨_,0,ei,rfl,l1 _,B⟩,?_⟩;rintro m _ u ⟨k,rfl,rfl,Z,M⟩ _;refine cR (aC (λc=>?_) λc=>?_)
 .obtain⟨h1,h2⟩:=E k u M;have nO:k<xs.length:=cK
  have V:xs.reverse[k]?=some (xs[xs.length-1-k]'(cK)):=dD
  refine bM iL h1 (aO fS h2 cK (x:=xs[xs.length-1-k]'(cK)) (by simp_all) λq Y=>aD iq Y ?_);obtain G:=U k _ u V M;refine kH.mono G ?_;rintro v w2 (⟨rfl,B2⟩|⟨rfl,Hl⟩)
  .refine bR (ft (fg cK ?_))
   grind
  refine bR (iw ?_)
  grind
 grind
def C276(sv:Value)(w:World)(h1:wB sv=true):CR 276 [sv] w (λv w'=>∃b,v=.func (.func 307) [].toArray [.pointer (some ⟨b,0,none⟩)].toArray/\lg (bY b [sv]) w w'):=by
 have u:=St.start w;refine eX Tryz.func276 ?_;exact nu u h1 (λb _ u=>⟨b,rfl,u.fresh⟩)
theorem Hu{α:Type}{p:α->Bool}{l:List α}{k:Nat}{x:α}(G:∀y∈l.take k,p y=false)(E:l[k]?=some x)(u:p x=true):l.find? p=some x:=by
 rw[List.find?_eq_some_iff_getElem]
 have I:=(kE.1 E)
 obtain⟨B,J⟩:=I
 refine⟨u,k,B,J,λj M=>?_⟩
 have:=G (l[j]'(cK)) (List.mem_take_iff_getElem.2 ⟨j,cK,rfl⟩)
 simp[this]
def C226(p:Nat)(c room:Int)(l:List bI)(w:World)(hb:ua w p room l)(hn:l.length<=1048576) :
  CR 226 [.pointer (some ⟨p,0,none⟩),hZ c] w (λv w'=>v=.tuple #[hZ ((lx l c).getD 0),.bool (lx l c).isSome]/\Ext w w'):=by
 obtain⟨sv,Cv,uS,hL⟩:=hb;have u:=St.start w;refine eX Tryz.func226 ?_;refine nu u rfl (λb3 _ u=>gB u uw rfl λb4 _ u=>gB u V8 rfl λZ _ u=>aE (aA kQ (bM iL (uS.ext u.aG) (dQ am3 (C276 sv _ hL.one) ?_))));rintro _ _ ⟨b,rfl,cL⟩;have u:=u.made cL
 refine wN (cap:=[.pointer (some ⟨b,0,none⟩)]) (xs:=(uT l.length).map fun (k:Nat)=>[nf .i64 ((l.length:Int)-1-k),ia ((l.reverse[k]?).getD ⟨0,0,0,0⟩)]) ang u
  (λk M=>M=[bY b [sv],bY Z [.bool false],bY b4 [hZ 0],bY b3 [hZ c]]/\∀y∈l.reverse.take k,decide (y.kind=3/\y.cell=c)=false)
  (λcd M=>cd=.ret/\∃x,lx l c=some x/\M=[bY Z [.bool true],bY b4 [hZ x]])
  ⟨rfl,ei⟩ ei ?_ ?_ ?_ ?_ ?_ ?_
 ·
  intro y J Jx W hJ Yr TE V;refine(C307 y sv b l J Jx W cK (λk W E=>?_) TE λk x W G E=>?_).mono λ_ _ r=>r.mono λv W' h=>?_
  .obtain⟨Y,M,⟨rfl,_⟩,hS⟩:=hJ k W E;exact⟨hS.p1.hb.cell rfl,hL.ext hS.aG⟩
  .have O:=(kE.1 G).1;rw[List.length_reverse]at O;have:=V k [nf .i64 ((l.length:Int)-1-k),ia x] W (by rw[pd,FY O];simp[G]) E;exact this
  simpa using h
 ·
  rintro k args Y1 Y2 B Kr M W E ⟨rfl,U⟩ hB hN hR u
  have O:k<l.length:=by
   have:=(kE.1 E).1
   simpa using this
  obtain⟨x,G⟩:∃x,l.reverse[k]?=some x:=⟨_,la (by simpa using O)⟩
  have ha:args=[nf .i64 ((l.length:Int)-1-k),ia x]:=by
   rw[pd,FY O]at E;simp[G]at E;exact E.symm
  subst ha;dsimp only[D0];refine aM u rz (λb7 _ u=>D7 u iq rfl ee (by simp[wB,jh]) λ_ u=>?_);refine hB _ _ _ u.p1 (λw8 u=>?_);have e7:jh [nf IntKind.i64 0,hZ 0,hZ 0,hZ 0] 0 [nf .i64 x.kind,hZ x.line,hZ x.cell,hZ x.n]=j0 x:=rfl;refine⟨_,?_,λ_ _ h=>h⟩;refine aA gG (aB bL u.p1.hb rfl (aH ?_))
  have no:¬ (x.kind=3/\x.cell=c)->Kr none w8:=λI=>by
   refine hN _ _ u.p1.drop.p0 ⟨rfl,?_⟩;exact dY U G (by simpa using I)
  refine aC (λc1=>?_) (λc1=>?_)
  .refine aA mu (aB bL u.p1.hb rfl (aB bL u.p5.hb rfl (aH ?_)));intro sZ;refine aC (λc2=>aA oV (aB bL u.p1.hb rfl (aT u.p4 bL (Bq rfl) rfl λ_ u=>aT u.p4 Ak (Bq rfl) rfl λ_ u=>hR _ [bY Z [.bool true],bY b4 [hZ x.n]] _ u.p5.drop.p4.drop.p3.drop.p2 ⟨rfl,x.n,?_,rfl⟩))) (λc2=>no λI=>c2 I.2);unfold lx;rw[Hu U G (by simpa using⟨c1,c2⟩)];rfl
  intro sZ;exact ft (no λI=>c1 I.1)
 ·
  rintro D M W ⟨rfl,U⟩ u;refine aT u.p3 bL (Bq rfl) rfl (λ_ u=>aT u.p3 Ak (Bq rfl) rfl λ_ u=>?_);refine Eg u.p2 (λw15 u=>?_);refine aB bL u.p1.hb rfl (aB Ak u.hb rfl ?_)
  have:lx l c=none:=by
   unfold lx
   rw[show l.reverse.find? _=none from List.find?_eq_none.2 λy V=>by
    have:=U y (by rw[kW ei];exact V);simp only[this];exact Bool.false_ne_true]
   rfl
  rw[this];exact⟨rfl,u.aG⟩
 .rintro D M W ⟨_,x,hl,rfl⟩ u;refine Eg u (λw15 u=>?_);refine aB bL u.p1.hb rfl (aB Ak u.hb rfl ?_);rw[hl];exact⟨rfl,u.aG⟩
 .rintro id D M W ⟨h,_⟩;cases h
 rintro c M ⟨h,_⟩;exact .inr h
theorem Js{α:Type}(l:List α)(i:Nat):([]++l.take i)++l.drop (i+1)=l.eraseIdx i:=by
 grind
def Jt{α:Type}{xs ys:List α}{k:Nat}{e f:α}(h:xs.take k=ys.take k)(h1:xs[k]?=some e)(h2:ys[k]?=some f)(u:e=f):xs.take (k+1)=ys.take (k+1):=by
 rw[ta,ta,h,h1,h2,u]
def Uf{α:Type}{xs ys:List α}{k:Nat}{e f:α}(h1:xs[k]?=some e)(h2:ys[k]?=some f)(u:¬ e=f):¬ xs=ys:=by
 grind
theorem PN{l:List bI}{c:Int}{k:Nat}{x:bI}(I:∀y∈l.drop (k+1),¬ (y.kind=3/\y.cell=c))(u:l[k]?=some x)(E:x.kind=3/\x.cell=c):lx l c=some x.n:=by
 unfold lx
 have G:=(kE.1 u).1
 rw[Hu (k:=l.length-1-k) (x:=x) ?_ ?_ dD]
 .rfl
 .intro y B
  have:y∈l.drop (k+1):=by
   rw[List.take_reverse]at B
   grind
  grind
 grind
theorem PO{l:List bI}{c:Int}(u:∀y∈l,¬ (y.kind=3/\y.cell=c)):lx l c=none:=by
 grind[lx]
def Sw{l:List bI}{c:Int}{k:Nat}{x:bI}(I:∀y∈l.drop (k+1),¬ (y.kind=3/\y.cell=c))(u:l[k]?=some x)(G:¬ (x.kind=3/\x.cell=c)):∀y∈l.drop k,¬ (y.kind=3/\y.cell=c):=by
 intro y E
 obtain⟨B,J⟩:=kE.1 u
 rw[List.drop_eq_getElem_cons B]at E
 grind
def adT{l:List bI}{i:Int}{k:Nat}{x y:bI}(B:0<=i)(h1:i<l.length)(u:l[i.toNat]?=some x)(I:k<i.toNat)(G:l[k]?=some y)(E:j4 x y=false):rD l i=false:=by
 rw[Ss B h1 u]
 have:(l.take i.toNat).any (λy=>!j4 x y)=true:=by
  rw[wY]
  exact⟨y,List.mem_iff_getElem?.2 ⟨k,dD⟩,dD⟩
 grind
def YQ{l:List bI}{i:Int}{x:bI}(E:0<=i)(h1:i<l.length)(B:l[i.toNat]?=some x)(u:∀y∈l.take i.toNat,j4 x y=true):rD l i=true:=by
 grind[rD]
def C49(room:Int)(w:World):CR 49 [hZ room] w (λv w'=>((room<1\/16<room)/\v=.tuple #[.pointer none,hZ 1]/\Ext w w')\/(1<=room/\room<=16/\∃b,v=.tuple #[.pointer (some ⟨b,0,none⟩),hZ 0]/\lg (jj b room []) w w')):=by
 have u:=St.start w;refine eX Tryz.func49 ?_;refine⟨_,?_,λ_ _ h=>h⟩;refine aR (aC (λE=>?_) λE=>?_)
 .intro B;exact iw (.inl ⟨cK,rfl,u.aG⟩)
 refine cO ?_;intro B;exact aC (λ_=>.inl ⟨cK,rfl,u.aG⟩) (λ_=>pop (Wn _) (nw u λb _ u=>have u:=(u.eM (α:=bI)).p1;.inr ⟨cK,cK,b,rfl,(jj.shut u).fresh⟩))
def C58(room:Int)(w:World):CR 58 [hZ room] w (λv w'=>((room<1\/16<room)/\v=.tuple #[.pointer none,hZ 1]/\Ext w w')\/(1<=room/\room<=16/\∃b,v=.tuple #[.pointer (some ⟨b,0,none⟩),hZ 0]/\lg (jj b room []) w w')):=by
 have u:=St.start w;refine eX Tryz.func58 ?_;refine⟨_,?_,λ_ _ h=>h⟩;refine aR (aC (λE=>?_) λE=>?_)
 .intro B;exact iw (.inl ⟨cK,rfl,u.aG⟩)
 refine cO ?_;intro B;exact aC (λ_=>.inl ⟨cK,rfl,u.aG⟩) (λ_=>pop (Wo _) (nw u λb _ u=>have u:=(u.eM (α:=bI)).p1;.inr ⟨cK,cK,b,rfl,(jj.shut u).fresh⟩))
def C71(V U:Value)(xs ys:List Int)(w:World)(I:dA (λ_=>True) w V xs)(M:dA (λ_=>True) w U ys)(hn:xs.length<=1073741824):CR 71 [V,U] w (λv w'=>v=.bool (decide (xs=ys))/\Ext w w'):=by
 have u:=St.start w;refine oH Tryz.func71 (pl:=P71) ?_;refine aK cS (I.ext u.aG) (aK cS (M.ext u.aG) (bW (aC (λ_=>⟨vb (fN (by rintro rfl;omega)).symm,u.aG⟩) λgH=>?_)));refine⟨λm x O=>∃k:Nat,x=hZ (k:Int)/\m=xs.length-k/\k<=xs.length/\xs.take k=ys.take k/\St w bD [] O,⟨_,0,rfl,rfl,l1 _,rfl,u⟩,?_⟩;rintro m _ O ⟨k,rfl,rfl,hk,G,u⟩ _;refine aK cS (I.ext u.aG) (aR (aC (λjD=>?_) λ_=>⟨vb (ez (by rw[kW cK,kW cK]at G;exact G)).symm,u.aG⟩));obtain⟨Z,J⟩:=gx xs (i:=(k:Int).toNat) cK
 refine aO cS (I.ext u.aG) cK J (λ_ Y=>have u:=u.drew;aD bL Y ?_);obtain⟨qy,B⟩:=gx ys (i:=(k:Int).toNat) cK;exact aO cS (M.ext u.aG) cK B (λ_ W=>aD bL W (bW (aC (λE=>⟨vb (fN (Uf J B E)).symm,u.aG⟩) λE=>aN cK ⟨xs.length-(k+1),cK,k+1,rfl,rfl,cK,Jt G J B (u1.1 E),u⟩)))
def C229(p:Nat)(c room:Int)(l:List bI)(w:World)(hb:ua w p room l)(hn:l.length<=1073741824):CR 229 [.pointer (some ⟨p,0,none⟩),hZ c] w (λv w'=>v=.tuple #[hZ ((lx l c).getD 0),.bool (lx l c).isSome]/\Ext w w'):=by
 obtain⟨sv,Cv,I,J⟩:=hb;have u:=St.start w;refine abR _ _ _ _ ?_;unfold S229;refine aE (aA gX (bM iL (I.ext u.aG) (aK fS (J.ext u.aG) (fg cK ?_))));refine⟨λm x V=>∃k:Nat,x=hZ ((k:Int)-1)/\m=k/\k<=l.length/\(∀y∈l.drop k,¬ (y.kind=3/\y.cell=c))/\St w bD [] V,⟨_,l.length,rfl,rfl,o1 _,ei,u⟩,?_⟩;rintro k _ V ⟨_,rfl,rfl,hk,G,u⟩ _;refine cR (aC (λjD=>?_) λjD=>?_)
 .refine⟨_,?_,λ_ _ h=>h⟩;refine aE (aA gX (bM iL (I.ext u.aG) ?_));obtain⟨B,E⟩:=gx l (i:=((k:Int)-1).toNat) cK;refine aO fS (J.ext u.aG) cK E (λ_ Y=>bV B.kind gG Y rfl rfl λ_ Z=>aD bL Z (aH (aC (λM=>?_) λM=>?_)))
  .refine aE (aA gX (bM iL (I.ext u.aG) (aO fS (J.ext u.aG) cK E λ_ xj=>bV B.cell mu xj rfl rfl λ_ rf=>aD bL rf (aH ?_))));intro W;refine aC (λU=>?_) (λU=>fg cK ⟨k-1,cK,k-1,by congr 1;omega,rfl,cK,Sw (x:=B) (by rw[show k-1+1=k from cK];exact G) (by rw[<- E];congr 1;omega) (λO=>U O.2),u⟩);refine aE (aA gX (bM iL (I.ext u.aG) (aO fS (J.ext u.aG) cK E λ_ vW=>bV B.n oV vW rfl rfl λ_ uU=>aD bL uU ?_)))
   rw[PN (k:=k-1) (x:=B) (by rw[show k-1+1=k from cK];exact G) (by rw[<- E];congr 1;omega) ⟨M,U⟩];exact⟨rfl,u.aG⟩
  intro W;exact ft (fg cK ⟨k-1,cK,k-1,by congr 1;omega,rfl,cK,Sw (x:=B) (by rw[show k-1+1=k from cK];exact G) (by rw[<- E];congr 1;omega) (λO=>M O.1),u⟩)
 rw[PO (by rw[show k=0 from cK]at G;simpa using G)];exact⟨rfl,u.aG⟩
def C151(p:Nat)(i room:Int)(l:List bI)(w:World)(hb:ua w p room l)(hn:l.length<=1073741824):CR 151 [.pointer (some ⟨p,0,none⟩),hZ i] w (λv w'=>v=.bool (rD l i)/\Ext w w'):=by
 obtain⟨sv,Cv,E,J⟩:=hb;have u:=St.start w;refine oH Tryz.func151 (pl:=aun) ?_;refine⟨_,?_,λ_ _ h=>h⟩;refine aR (aC (λgQ=>?_) λgQ=>?_)
 .intro sZ;exact iw ⟨vb (lW cK).symm,u.aG⟩
 refine aE (aA gX (bM iL (E.ext u.aG) (aK fS (J.ext u.aG) (cR ?_))));intro sZ;refine aC (λ_=>⟨vb (lW cK).symm,u.aG⟩) (λer=>?_);refine⟨λm x O=>∃k:Nat,x=hZ (k:Int)/\m=i.toNat-k/\(k:Int)<=i/\(∀x y,l[i.toNat]?=some x->y∈l.take k->j4 x y=true)/\St w bD [] O,⟨_,0,rfl,rfl,cK,ei,u⟩,?_⟩;rintro m _ O ⟨k,rfl,rfl,hk,V,u⟩ _;refine aR (aC (λZ=>?_) λZ=>⟨vb (YQ (x:=l[i.toNat]'(cK)) cK cK (la _) λy B=>V _ y (la _) (by rw[show k=i.toNat from cK];exact B)).symm,u.aG⟩)
 refine aE (aA gX (have u:=u.drew;bM iL (E.ext u.aG) ?_));obtain⟨Y,I⟩:=gx l (i:=(i).toNat) cK;refine aO fS (J.ext u.aG) cK I (λ_ uJ=>aD iq uJ (aE (aA gX (bM iL (E.ext u.aG) ?_))));obtain⟨uV,M⟩:=gx l (i:=(k:Int).toNat) cK;refine aO fS (J.ext u.aG) cK M (λ_ W=>aD iq W (aV amN u (C222 _ _ _) λ_ he u=>bR (aY (λG=>⟨vb (adT cK cK I cK M (by simpa using G)).symm,u.aG⟩) λG=>aN cK ?_)));refine⟨i.toNat-(k+1),cK,k+1,rfl,rfl,cK,λx y U B=>?_,u⟩
 rw[oe.inj (U.symm.trans I)]at *;exact dY (φ:=λy=>j4 Y y=true) (λy B=>V _ y U B) M (by simpa using G) y B
def C81(p:Nat)(room:Int)(l:List bI)(w:World)(hb:ua w p room l)(hn:l.length<=1048576):CR 81 [.pointer (some ⟨p,0,none⟩)] w (λv w'=>lg (bH v (pA l)) w w'):=by
 have V:=hb;obtain⟨sv,Cv,M,U⟩:=hb;have u:=St.start w;refine eX Tryz.func81 ?_;refine aZ ([]:List Int) u cS rfl rfl (dL rfl) (λOP G u=>?_);refine⟨λm o x G=>∃k:Nat,x=hZ (k:Int)/\m=l.length-k/\k<=l.length/\St w bD [bH o (sF l k)] G,⟨_,0,rfl,rfl,l1 _,u⟩,?_⟩;rintro m o _ G ⟨k,rfl,rfl,Y,u⟩ _;have W:=Hq l k;refine aE (aA gX (bM iL (M.ext u.aG) (aK fS (U.ext u.aG) (aR (aC (λI=>⟨_,aV afo u (C151 _ _ _ _ _ (V.ext u.aG) cK) (λ_ Z u=>aY (λE=>?_) λE=>?_),λ_ _ h=>h⟩) λI=>?_)))))
 .refine aZ ([(k:Int)]:List Int) u cS rfl rfl (dL rfl) (λYS _ u=>?_);have B:=u.dX;refine bJ u.p1 cS B (by simp<;>omega) ee (λO _ u=>?_);have u:=u.p1.drop;intro J;exact aN cK ⟨l.length-(k+1),cK,k+1,rfl,rfl,cK,by rw[Fl E];exact u⟩
 .intro J;exact aN cK ⟨l.length-(k+1),cK,k+1,rfl,rfl,cK,by rw[Hr E];exact u⟩
 rw[Fm l cK]at u;exact u.fresh
def C230(p:Nat)(room:Int)(l:List bI)(x:bI)(F:Nat->Prop)(w:World)(O:(jj p room l).p w F)(U:l.length<=1048576):CR 230 [.pointer (some ⟨p,0,none⟩),ia x] w (λv w'=>v=hZ (Mv room l x)/\mP F (jj p room (sG room l x)) w w'):=by
 have u:=St.begin O;obtain⟨sv,u⟩:=u.eh;have u:=u.split;refine oH Tryz.func230 (pl:=auC) ?_;refine cI u (λM _ u=>aD iq u.At (aV am4 u (C277 _ _) λ_ V u=>bR (aY (λB=>?_) λB=>aE (aA gX (have u:=u.drew;aB iL u.p1.hb rfl (aK fS u.p2.dX (aE (aA Wi (aB bL u.p1.hb rfl (cR (aC (λE=>?_) λE=>?_)))))))))))
 .have u:=u.p2.p2;rw[Mw (by simpa using B),Mx (by simpa using B)];exact⟨rfl,(jj.shut u).mut⟩
 .have u:=u.p2.p2;rw[Hs (by simpa using B) E,Ht E];exact⟨rfl,(jj.shut u).mut⟩
 refine aE (aA gX (have u:=u.drew;aB iL u.p1.hb rfl (aD iq u.At (aZ ([x]) u fS rfl rfl (dL rfl) λI _ u=>?_))));refine⟨aF iL (u.p2.hb.cell rfl),?_⟩;have J:=u.dX;refine bJ u.p3 fS J (by simp<;>omega) ee (λG _ u=>have u:=u.p1.drop;aE (aA gX (aT u.p2 iL (dL rfl) u.dX.one λ_ u=>?_)));have u:=u.p1.p1;rw[Su (by simpa using B) E,Sv (by simpa using B) E];exact⟨rfl,(jj.shut u).mut⟩
def C165(p:Nat)(room:Int)(l:List bI)(i:Int)(F:Nat->Prop)(w:World)(hF:(jj p room l).p w F)(hn:l.length<=1048576):CR 165 [.pointer (some ⟨p,0,none⟩),hZ i] w (λv w'=>v=.tuple #[ia (dH l i),hZ (xq l i)]/\mP F (jj p room (jS l i)) w w'):=by
 have u:=St.begin hF;obtain⟨sv,u⟩:=u.eh;have u:=u.split;refine abN _ _ _ _ ?_;unfold S165;refine aM u rz (λOS _ u=>?_);refine⟨_,?_,λ_ _ h=>h⟩;refine aR (aC (λjH=>?_) λjH=>?_)
 .intro Z;refine iw (pop xY (aJ (x:=(⟨0,0,0,0⟩:bI)) u iq rfl rfl λO u=>aD iq u.At ?_));have u:=u.p2.p2;rw[rO (lW cK),yg cK,rP (lW cK)];exact⟨rfl,(jj.shut u).mut⟩
 refine aE (aA gX (aB iL u.p1.hb rfl (aK fS u.p2.dX (cR ?_))));intro Z;refine aC (λlP=>?_) (λlP=>aV afo u (C151 _ _ _ _ _ (ua.mk' u.p1.hb u.p2.dX) cK) λ_ he u=>bR (aY (λB=>?_) λB=>?_))
 .refine pop xY (aJ (x:=(⟨0,0,0,0⟩:bI)) u iq rfl rfl λO u=>aD iq u.At ?_);have u:=u.p2.p2;rw[rO (lW cK),yg cK,rP (lW cK)];exact⟨rfl,(jj.shut u).mut⟩
 .refine pop xY (aJ (x:=(⟨0,0,0,0⟩:bI)) u iq rfl rfl λ_ u=>aD iq u.At ?_);have u:=u.p2.p2;rw[rO (by simpa using B),My cK (by simpa using B),rP (by simpa using B)];exact⟨rfl,(jj.shut u).mut⟩
 refine aE (aA gX (aB iL u.p1.hb rfl ?_));obtain⟨I,G⟩:=gx l (i:=(i).toNat) cK;refine dR u.p2 fS cK cK (λ_ Y=>gL u.p2 iq Y G (aM u rz λPM _ u=>aJ (x:=I) u iq rfl rfl λ_ u=>aZ ([]:List bI) u fS rfl rfl (dL rfl) λJ _ u=>aE (aA gX (aB iL u.p3.hb rfl (l4 fS u.p4.dX cK cK λU yM=>?_)))));have E:=yM;refine bJ u fS E (by simp<;>omega) ee (λV _ u=>aE (aA gX (aB iL u.p3.hb rfl (aN cK (BK fS u.p4.dX cK cK λaqs M=>?_)))))
 have PQ:=M;refine bJ u fS PQ (by simp<;>omega) ee (λW _ u=>aE (aA gX (aT u.p3 iL (dL rfl) u.dX.one λ_ u=>aD iq u.p2.At (aJ (x:=I) u.p3 iq rfl rfl λ_ u=>aD iq u.At ?_))));have u:=u.p2.p2;rw[MA (by simpa using B) G,Mz (by simpa using B),MC (by simpa using B),<- Js,<- show(i+1).toNat=i.toNat+1 from cK];exact⟨rfl,(jj.shut u).mut⟩
structure Mem where
 of:List Int
 dV:List Int
 l:List Int
 kept:List Int
 fJ:Int->List km
def fU(of:List Int):Int:=if of.length=0 then 0 else of.getD (of.length-1) 0+1
def nM(k:List Int)(ws:List km):List Int:=ws.foldl (λk w=>k.set w.cell.toNat w.n) k
theorem xt(ws:List km):∀k:List Int,(nM k ws).length=k.length:=by
 induction ws with
 | nil=>intro k;rfl
 | cons x ws u=>simp_all[nM]
theorem Cd(ws:List km)(x:km)(k:List Int):nM k (ws++[x])=(nM k ws).set x.cell.toNat x.n:=by
 unfold nM;grind
theorem Hv{ws:List km}{j:Nat}{x:km}{k:List Int}(u:ws[j]?=some x):nM k (ws.take (j+1))=(nM k (ws.take j)).set x.cell.toNat x.n:=by
 rw[ta,u];exact Cd _ _ _
def Gp(m:Mem)(cell:Int):Bool:=decide (0<=cell/\cell<m.l.length)
def fk(m:Mem)(cell n:Int):Mem:=if Gp m cell=true then {m with l:=m.l.set cell.toNat n,fJ:=if cell<m.of.length then pM m.fJ (m.of.getD cell.toNat 0) (m.fJ (m.of.getD cell.toNat 0)++[⟨cell,n⟩])else m.fJ}else m
def Fp(m:Mem)(line:Int):Bool:=decide (0<=line/\line<fU m.of)
def n7(m:Mem)(line:Int):Mem:=if Fp m line=true then {m with kept:=nM m.kept (m.fJ line),fJ:=pM m.fJ line []}else m
structure wq(m:Mem):Prop where
 MD:m.of.length<=m.dV.length
 fl:m.dV.length<=20
 ll:m.l.length=m.dV.length
 kl:m.kept.length=m.of.length
 ofr:∀n∈m.of,0<=n/\n<fU m.of
 lb:fU m.of<=20
 pc:∀k,∀x∈m.fJ k,0<=x.cell/\x.cell<m.of.length
def MB(m:Mem)(n:Nat):Prop:=∀k,(m.fJ k).length<=n
def iK(p:Nat)(ov fv:Value)(m:Mem):HP:=pH λlv=>pH λkv=>pH λpm=>sep (bY p [ov,fv,lv,kv,.map (some pm)]) (sep (bH lv m.l) (sep (bH kv m.kept) (re pm m.fJ)))
def A7(ov fv:Value)(m:Mem)(w:World):Prop:=dA (λ_=>True) w ov m.of/\dA (λ_=>True) w fv m.dV
def yw(w:World)(p:Nat)(m:Mem):Prop:=∃ov fv lv kv pm,Cell w p 0 ov/\Cell w p 1 fv/\Cell w p 2 lv/\Cell w p 3 kv/\Cell w p 4 (.map (some pm))/\dA (λ_=>True) w ov m.of/\dA (λ_=>True) w fv m.dV/\dA (λ_=>True) w lv m.l/\dA (λ_=>True) w kv m.kept/\vU w pm m.fJ
section
variable {w w' w0:World}{A F:Nat->Prop}{R:List HP}{p:Nat}{ov fv lv kv:Value}{m:Mem}{pm:Nat}
theorem yw.ext(h:yw w p m)(e:Ext w w'):yw w' p m:=by
 obtain⟨ov,fv,lv,kv,pm,G,J,B,u,I,E,h1,h2,h3,h4⟩:=h
 exact⟨ov,fv,lv,kv,pm,G.ext e,J.ext e,B.ext e,u.ext e,I.ext e,E.ext e,h1.ext e,h2.ext e,h3.ext e,h4.ext e⟩
theorem yw.mk'(h:mR w p [ov,fv,lv,kv,.map (some pm)])(u:A7 ov fv m w)(h2:dA (λ_=>True) w lv m.l)(h3:dA (λ_=>True) w kv m.kept)(h4:vU w pm m.fJ):yw w p m:=
 ⟨ov,fv,lv,kv,pm,h.cell rfl,h.cell rfl,h.cell rfl,h.cell rfl,h.cell rfl,u.1,u.2,h2,h3,h4⟩
theorem iK.open(u:St w0 A (iK p ov fv m::R) w):∃lv kv pm,St w0 A (bY p [ov,fv,lv,kv,.map (some pm)]::bH lv m.l::bH kv m.kept::re pm m.fJ::R) w:=by
 obtain⟨lv,u⟩:=u.eh;obtain⟨kv,u⟩:=u.eh;obtain⟨pm,u⟩:=u.eh
 have h1:=u.split
 have h2:=h1.p1.split
 have h3:=h2.p1.split
 exact⟨lv,kv,pm,h3.p2.p3⟩
theorem iK.shut(u:St w0 A (bY p [ov,fv,lv,kv,.map (some pm)]::bH lv m.l::bH kv m.kept::re pm m.fJ::R) w):St w0 A (iK p ov fv m::R) w:=by
 have h1:St w0 A (sep (bH kv m.kept) (re pm m.fJ)::bY p [ov,fv,lv,kv,.map (some pm)]::bH lv m.l::R) w:=St.join u.p3.p3
 have h2:St w0 A (sep (bH lv m.l) (sep (bH kv m.kept) (re pm m.fJ))::bY p [ov,fv,lv,kv,.map (some pm)]::R) w:=St.join h1.p2
 exact St.ek lv (St.ek kv (St.ek pm (St.join h2.p1)))
theorem Ju(u:St w0 A (iK p ov fv m::R) w)(B:A7 ov fv m w):yw w p m:=by
 obtain⟨lv,kv,pm,u⟩:=iK.open u
 exact yw.mk' u.hb B u.p1.dX u.p2.dX u.p3.Xe
end
def C148(p:Nat)(m:Mem)(w:World)(J:yw w p m)(B:wq m):CR 148 [(.pointer (some ⟨p,0,none⟩))] w (λv w'=>v=hZ (fU m.of)/\Ext w w'):=by
 have ME:=J;obtain⟨ov,fv,lv,kv,pm,I,c1,c2,c3,c4,G,N9,hL,M,hP⟩:=J;have W:=B.fl;have Kd:=B.MD;have V:=B.ll;have BQ:=B.kl;have N4:=B.lb;have u:=St.start w;refine oH Tryz.func148 (pl:=aum) ?_;refine aE (aA wK (bM eg (I.ext u.aG) (aK cS (G.ext u.aG) (aH (aC (λ_=>⟨gN (nf .i64) (by unfold fU;rw[ew cK]),u.aG⟩) λY=>aE (aA wK (have u:=u.drew;bM eg (I.ext u.aG) (aE (aA wK (bM eg (I.ext u.aG) (aK cS (G.ext u.aG) (fg cK ?_))))))))))));obtain⟨Z,E⟩:=gx m.of (i:=((m.of.length:Int)-1).toNat) cK
 refine aO cS G cK E (λ_ U=>aD bL (U.ext u.aG) ?_);have O:=B.ofr _ (kO E);exact aN cK ⟨gN (nf .i64) (by unfold fU;rw[ej cK,ob,show m.of.length-1=((m.of.length:Int)-1).toNat from cK,E];rfl),u.aG⟩
def C227(p:Nat)(m:Mem)(cell:Int)(w:World)(E:yw w p m)(hk:wq m):CR 227 [(.pointer (some ⟨p,0,none⟩)),hZ cell] w (λv w'=>v=.tuple #[hZ (if Gp m cell=true then m.l.getD cell.toNat 0 else 0),hZ (if Gp m cell=true then 0 else 1)]/\Ext w w'):=by
 have ME:=E;obtain⟨ov,fv,lv,kv,pm,c0,c1,J,Y,c4,hO,N9,G,U,Z⟩:=E;have u:=St.start w;refine eX Tryz.func227 ?_;refine⟨λW w'=>W=.bool (decide (cell<0\/m.l.length<=cell))/\w=w',aR (aC (λ_=>⟨N1 cK,rfl⟩) λ_=>aE (aA r8 (bM eg (J.ext u.aG) (aK cS (G.ext u.aG) (cR ⟨yB cK,rfl⟩))))),?_⟩;rintro _ _ ⟨rfl,M⟩ _;subst M;refine aC (λO=>?_) (λO=>?_)
 .have B:Gp m cell=false:=by unfold Gp;rw[decide_eq_false_iff_not];omega
  rw[B];exact⟨rfl,u.aG⟩
 refine aE (aA r8 (bM eg (J.ext u.aG) ?_));obtain⟨Fo,I⟩:=gx m.l (i:=cell.toNat) cK;refine aO cS G cK I (λ_ V=>aD bL (V.ext u.aG) ?_);have B:Gp m cell=true:=by unfold Gp;rw[decide_eq_true_eq];omega
 rw[B,ob,I];exact⟨rfl,u.aG⟩
def C144(p:Nat)(m:Mem)(w:World)(E:yw w p m)(u:wq m):CR 144 [(.pointer (some ⟨p,0,none⟩))] w (λv w'=>lg (bH v m.l) w w'):=by
 have Z:=E;obtain⟨ov,fv,lv,kv,pm,c0,c1,J,V,c4,hO,Y,I,G,W⟩:=E;have O:=u.fl;have Kd:=u.MD;have M:=u.ll;have U:=u.kl;have N4:=u.lb;have B:=St.start w;refine eX Tryz.func144 ?_;exact aE (aA r8 (bM eg (J.ext B.aG) (dT Ou B (C83 _ _ _ (I.ext B.aG) cK) λ_ _ _ B=>B.fresh)))
def C145(p:Nat)(m:Mem)(w:World)(G:yw w p m)(u:wq m):CR 145 [(.pointer (some ⟨p,0,none⟩))] w (λv w'=>lg (bH v m.kept) w w'):=by
 have W:=G;obtain⟨ov,fv,lv,kv,pm,c0,c1,c2,I,Y,hO,V,Z,E,U⟩:=G;have M:=u.fl;have Kd:=u.MD;have J:=u.ll;have O:=u.kl;have N4:=u.lb;have B:=St.start w;refine eX Tryz.func145 ?_;exact aE (aA Aq (bM eg (I.ext B.aG) (dT Ou B (C83 _ _ _ (E.ext B.aG) cK) λ_ _ _ B=>B.fresh)))
def C156(p:Nat)(ov fv:Value)(m:Mem)(F:Nat->Prop)(cell n:Int)(w:World)(hF:(iK p ov fv m).p w F)(M:∀w',gu F w w'->A7 ov fv m w')(E:wq m)(hb:MB m 1000000):CR 156 [(.pointer (some ⟨p,0,none⟩)),hZ cell,hZ n] w (λv w'=>v=hZ (if Gp m cell=true then 0 else 1)/\mP F (iK p ov fv (fk m cell n)) w w'):=by
 have u:=St.begin hF;obtain⟨lv,kv,pm,u⟩:=iK.open u;have MF:=E.fl;have Kd:=E.MD;have Bx:=E.ll;have BQ:=E.kl;have N4:=E.lb;refine oH Tryz.func156 (pl:=auo) ?_;refine⟨λjv w'=>jv=.bool (decide (cell<0\/m.l.length<=cell))/\w=w',aR (aC (λ_=>⟨N1 cK,rfl⟩) λ_=>aE (aA r8 (aB eg u.hb rfl (aK cS u.p1.dX (cR ⟨yB cK,rfl⟩))))),?_⟩;rintro _ _ ⟨rfl,U⟩ _;subst U;refine aC (λlP=>?_) (λlP=>?_)
 .have u:=u.p3.p3.p3.p3;have G:Gp m cell=false:=by unfold Gp;rw[decide_eq_false_iff_not];omega
  unfold fk;rw[G];exact⟨rfl,(iK.shut u).mut⟩
 have G:Gp m cell=true:=by unfold Gp;rw[decide_eq_true_eq];omega
 refine aE (aA r8 (aB eg u.hb rfl ?_));obtain⟨Sy,Fq⟩:=gx m.l (i:=cell.toNat) cK;refine dR u.p1 cS cK cK (λ_ Z=>js _ u.p1 bL Z cK λ_ u=>⟨λw'=>St w F [iK p ov fv (fk m cell n)] w',aE (aA wK (aB eg u.p1.hb rfl (aK cS (M _ u.aG).1 (aR (aC (λV=>?_) λV=>?_))))),?_⟩)
 .refine aE (aA wK (aB eg u.p1.hb rfl ?_));obtain⟨I,O⟩:=gx m.of (i:=cell.toNat) cK;refine aO cS (M _ u.aG).1 cK O (λ_ yM=>aD bL yM (aE (aA r9 (have u:=u.drew;aB yI u.p1.hb rfl (aE (aA r9 (aB yI u.p1.hb rfl ?_)))))));have W:=hb I;obtain⟨J,u⟩:=u.p3.LI (k:=I);refine⟨_,u.p1.BV Tryz.underlying185 KQ As,?_⟩;refine pop (OF _ _) (aZ ([(⟨cell,n⟩:km)]) u Cy rfl rfl (dL rfl) λY _ u=>?_);refine⟨aF yI (u.p4.hb.cell rfl),?_⟩;refine⟨aF yI (u.p4.hb.cell rfl),?_⟩
  refine⟨u.p2.BV Tryz.underlying185 KQ As,?_⟩;have O5:=u.dX;refine bJ u.p1 Cy O5 (by simp;omega) ee (λaov _ u=>?_);have u:=u.p1.drop;refine⟨aF yI (u.p3.hb.cell rfl),?_⟩;obtain⟨Fs,rfl⟩:=u.fI;have u:=u.p1.p1;refine LJ u Tryz.underlying185 KQ (λ_ u=>?_);have u:=u.p3.p2.p3;have B:fk m cell n={m with l:=m.l.set cell.toNat n,fJ:=pM m.fJ I (m.fJ I++[⟨cell,n⟩])}:=by unfold fk;rw[ew G,ew cK,ob,O];rfl
  rw[B];exact iK.shut (m:={m with l:=_,fJ:=_}) u
 .have u:=u.p3.p3.p2.p3;have B:fk m cell n={m with l:=m.l.set cell.toNat n}:=by unfold fk;rw[ew G,ej cK]
  rw[B];exact iK.shut (m:={m with l:=_,fJ:=_}) u
 intro _ u _;exact⟨by rw[G];rfl,u.mut⟩
def Sz(m:Mem)(cut:List Int):Bool:=decide ((cut.length:Int)=fU m.of)&&(uT cut.length).all λi=>decide (0<=cut.getD i 0/\cut.getD i 0<=(m.fJ i).length)
def pS(m:Mem)(cut:List Int)(k:Nat):List Int:=(uT k).foldl (λo (i:Nat)=>nM o ((m.fJ i).take (cut.getD i 0).toNat)) m.kept
def fB(m:Mem)(cut:List Int):Option (List Int):=if Sz m cut=true then some (pS m cut cut.length)else none
theorem uW(m:Mem)(cut:List Int)(k:Nat):pS m cut (k+1)=nM (pS m cut k) ((m.fJ k).take (cut.getD k 0).toNat):=by
 unfold pS;rw[Ie,CO];rfl
theorem pa(m:Mem)(cut:List Int):∀k,(pS m cut k).length=m.kept.length
 | 0=>rfl
 | k+1=>by rw[uW,xt,pa]
def MG{m:Mem}{cut:List Int}{k:Nat}{c:Int}(hc:cut[k]?=some c)(h:¬ (0<=c/\c<=(m.fJ k).length)):fB m cut=none:=by
 unfold fB;grind[Sz,pS]
def MH{m:Mem}{cut:List Int}(h:(cut.length:Int)≠fU m.of):fB m cut=none:=by
 unfold fB Sz;grind
def Hw{m:Mem}{cut:List Int}(h:(cut.length:Int)=fU m.of)(hc:∀(k:Nat) (c:Int),k<cut.length->cut[k]?=some c->0<=c/\c<=(m.fJ k).length):fB m cut=some (pS m cut cut.length):=by
 unfold fB;grind[Sz,pS]
def Ft(m:Mem)(n:Nat):List Nat:=(uT n).map fun (i:Nat)=>(m.fJ i).length
theorem YT{m:Mem}{n i:Nat}(h:i<n):(Ft m n)[i]?=some (m.fJ i).length:=by
 unfold Ft;rw[pd,FY h];rfl
def mH(m:Mem)(u:List Int):Mem:={m with kept:=u,l:=u++m.dV.drop u.length,fJ:=λ_=>[]}
def C157(p:Nat)(ov fv:Value)(m:Mem)(F:Nat->Prop)(line:Int)(w:World)(hF:(iK p ov fv m).p w F)(V:∀w',gu F w w'->A7 ov fv m w')(B:wq m)(hb:MB m 1000000):CR 157 [(.pointer (some ⟨p,0,none⟩)),hZ line] w (λv w'=>v=hZ (if Fp m line=true then 0 else 1)/\mP F (iK p ov fv (n7 m line)) w w'):=by
 have u:=St.begin hF;obtain⟨lv,kv,pm,u⟩:=iK.open u;have MF:=B.fl;have Kd:=B.MD;have Bx:=B.ll;have BQ:=B.kl;have N4:=B.lb;refine oH Tryz.func157 (pl:=aup) ?_;refine⟨λjv w'=>jv=.bool (decide (line<0\/fU m.of<=line))/\St w F [bY p [ov,fv,lv,kv,.map (some pm)],bH lv m.l,bH kv m.kept,re pm m.fJ] w',aR (aC (λ_=>⟨vb (by first|exact(ez cK).symm|exact ga.2 cK),u⟩) λ_=>aV afn u (C148 _ m _ (yw.mk' u.hb (V _ u.aG) u.p1.dX u.p2.dX u.p3.Xe) B) λ_ _ u=>cR ⟨vb (by first|exact(ez cK).symm|exact ga.2 cK),u⟩),?_⟩
 rintro _ _ ⟨rfl,u⟩ _;refine aC (λjD=>?_) (λjD=>?_)
 .have u:=u.p3.p3.p3.p3;have G:Fp m line=false:=by unfold Fp;rw[decide_eq_false_iff_not];omega
  unfold n7;rw[G];exact⟨rfl,(iK.shut u).mut⟩
 refine aE (aA r9 (aB yI u.hb rfl ?_));obtain⟨O,u⟩:=u.p3.LI (k:=line);refine⟨_,u.p1.BV Tryz.underlying185 KQ As,?_⟩;have G6:=hb line;refine aK Cy u.dX ?_;have u:=u.p3.p3.p4.p4.p4;refine⟨λJ x W=>∃k:Nat,x=hZ (k:Int)/\J=(m.fJ line).length-k/\k<=(m.fJ line).length/\St w F [bH (ia O) (m.fJ line),LH pm m.fJ line O,bH kv (nM m.kept ((m.fJ line).take k)),bY p [ov,fv,lv,kv,.map (some pm)],bH lv m.l] W,⟨_,0,rfl,rfl,l1 _,u⟩,?_⟩;rintro J _ _ ⟨k,rfl,rfl,xf,u⟩ _;refine aR (aC (λZ=>?_) λZ=>?_)
 .obtain⟨E,I⟩:=gx (m.fJ line) (i:=(k:Int).toNat) cK;refine dR u Cy cK cK (λ_ wR=>?_);have Y:=B.pc line _ (kO I);refine gL u Ry wR I (aM u Rz λM _ u=>aJ (x:=E) u Ry rfl rfl λ_ u=>aE (aA Aq (have u:=u.drew;aB eg u.p4.hb rfl (aA Lc ?_))));have TP:=xt ((m.fJ line).take k) m.kept;refine aB (v:=hZ E.cell) bL u.hb rfl (aA Ld (aB (v:=hZ E.n) bL u.hb rfl ?_));obtain⟨uV,o9⟩:=gx (nM m.kept ((m.fJ line).take k)) (i:=E.cell.toNat) cK
  exact dR u.p3 cS cK cK (λ_ U=>js _ u.p3 bL U cK λ_ u=>aN cK (have u:=u.p1.drop.p4.p4.p2.p4.p4;⟨_,cK,k+1,rfl,rfl,cK,by rw[Hv (j:=k) I];exact u⟩))
 rw[kW cK]at u;refine aE (aA r9 (aB yI u.p3.hb rfl ?_));have u:=u.p1.p1.Xf;rw[TT]at u;refine LK u rfl Tryz.underlying185 KQ (λ_ _ u=>?_);have u:=u.p1.p3.p3;have G:Fp m line=true:=by unfold Fp;rw[decide_eq_true_eq];omega
 have PR:n7 m line={m with kept:=nM m.kept (m.fJ line),fJ:=pM m.fJ line []}:=by unfold n7;rw[ew G]
 rw[PR,G];exact⟨rfl,(iK.shut (m:={m with kept:=_,fJ:=_}) u).mut⟩
def C150(p:Nat)(m:Mem)(cut:List Int)(cv:Value)(w:World)(hm:yw w p m)(E:wq m)(hb:MB m 1000000)(V:dA (λ_=>True) w cv cut)(YU:cut.length<=1000):CR 150 [(.pointer (some ⟨p,0,none⟩)),cv] w (λv w'=>(fB m cut=none/\v=.tuple #[.slice none 0 0,hZ 1]/\Ext w w')\/∃ly o,fB m cut=some ly/\v=.tuple #[o,hZ 0]/\lg (bH o ly) w w'):=by
 have Y:=hm;obtain⟨ov,fv,lv,kv,pm,c0,c1,c2,c3,c4,hO,N9,hL,hKp,hP⟩:=hm;have MF:=E.fl;have Kd:=E.MD;have Bx:=E.ll;have BQ:=E.kl;have N4:=E.lb;have u:=St.start w;refine eX Tryz.func150 ?_;refine aK cS (V.ext u.aG) (aV afn u (C148 _ m _ (Y.ext u.aG) E) λM he u=>bW (aC (λ_=>.inl ⟨MH cK,rfl,u.aG⟩) λjo=>dT amC u (C145 _ m _ (Y.ext u.aG) E) λZ _ cL u=>aK cS (V.ext u.aG) ?_));refine⟨λG x M=>∃k:Nat,x=hZ (k:Int)/\G=cut.length-k/\k<=cut.length/\(∀(i:Nat) (c:Int),i<k->cut[i]?=some c->0<=c/\c<=(m.fJ i).length)/\St w bD [bH Z (pS m cut k)] M,⟨_,0,rfl,rfl,l1 _,λ_ _ h=>absurd h cK,u⟩,?_⟩
 rintro G _ w3 ⟨k,rfl,rfl,xf,kC,u⟩ _;refine aR (aC (λkS=>?_) λ_=>.inr ⟨_,_,Hw cK (λi c _ hc=>kC i c cK hc),rfl,by rw[show cut.length=k from cK];exact u.fresh⟩);obtain⟨B,J⟩:=gx cut (i:=(k:Int).toNat) cK;refine aO cS V cK J (λ_ qz=>aD bL (qz.ext u.aG) ⟨λjv w'=>jv=.bool (decide (B<0\/(m.fJ k).length<B))/\w3=w',aR (aC (λ_=>⟨N1 cK,rfl⟩) λ_=>aE (aA r9 (bM yI (c4.ext u.aG) (Hd hP u.aG Tryz.underlying185 KQ As λ_ xn=>aK Cy (xn.ext u.aG) (cO ⟨yB cK,rfl⟩))))),?_⟩)
 rintro _ _ ⟨rfl,hw⟩ _;subst hw;refine aC (λ_=>.inl ⟨MG (k:=k) J cK,rfl,u.aG⟩) (λoZ=>aE (aA r9 (bM yI (c4.ext u.aG) (Hd hP u.aG Tryz.underlying185 KQ As λags vW=>?_))));have hbk:=hb k;have N3:((m.fJ k).take B.toNat).length<=(m.fJ k).length:=by rw[l0];omega
 refine jP Cy (vW.ext u.aG) cK cK (λap6 PA=>?_);have Jk:=PA _ vW;refine aK Cy (Jk.ext u.aG) ?_;refine⟨λG x M=>∃j:Nat,x=hZ (j:Int)/\G=((m.fJ k).take B.toNat).length-j/\j<=((m.fJ k).take B.toNat).length/\St w bD [bH Z (nM (pS m cut k) (((m.fJ k).take B.toNat).take j))] M,⟨_,0,rfl,rfl,l1 _,u⟩,?_⟩;rintro G _ _ ⟨j,rfl,rfl,hj,u⟩ _;refine aR (aC (λRY=>?_) λRY=>?_)
 .obtain⟨I,W⟩:=gx ((m.fJ (k:Int)).take B.toNat) (i:=(j:Int).toNat) cK;refine aO Cy Jk cK W (λ_ EU=>?_);have hpc:=E.pc k _ (List.mem_of_mem_take (kO W));refine aD Ry (EU.ext u.aG) (aM u Rz λU _ u=>aJ (x:=I) u Ry rfl rfl λ_ u=>aA Lc ?_);have TP:=xt (((m.fJ k).take B.toNat).take j) (pS m cut k);have hil:=pa m cut k;refine aB (v:=hZ I.cell) bL u.hb rfl (aA Ld (aB (v:=hZ I.n) bL u.hb rfl ?_));obtain⟨O,axb⟩:=gx (nM (pS m cut k) (((m.fJ k).take B.toNat).take j)) (i:=I.cell.toNat) cK
  exact dR u.p1 cS cK cK (λ_ YV=>js _ u.p1 bL YV cK λ_ u=>aN cK (have u:=u.p1.drop;⟨_,cK,j+1,rfl,rfl,cK,by rw[Hv (j:=j) W];exact u⟩))
 rw[kW (i:=j) cK]at u;refine aN cK ⟨_,cK,k+1,rfl,rfl,cK,λi c hi hc=>?_,?_⟩
 .by_cases e:i=k
  .subst e;obtain rfl:=oe.inj (hc.symm.trans J);omega
  exact kC i c cK hc
 rw[uW,ob,show cut[k]?=some B from J];exact u
def C86(p:Nat)(ov fv:Value)(m:Mem)(F:Nat->Prop)(cut:List Int)(cv:Value)(w:World)(hF:(iK p ov fv m).p w F)(W:∀w',gu F w w'->A7 ov fv m w')(E:wq m)(hb:MB m 1000000)(Z:∀w',gu F w w'->dA (λ_=>True) w' cv cut)(YU:cut.length<=1000):CR 86 [(.pointer (some ⟨p,0,none⟩)),cv] w (λv w'=>(fB m cut=none/\v=hZ 1/\mP F (iK p ov fv m) w w')\/∃Y,fB m cut=some Y/\v=hZ 0/\mP F (iK p ov fv (mH m Y)) w w'):=by
 have u:=St.begin hF;obtain⟨lv,kv,pm,u⟩:=iK.open u;have MF:=E.fl;have Kd:=E.MD;have Bx:=E.ll;have V:=E.kl;have N4:=E.lb;refine oH Tryz.func86 (pl:=P86) ?_;refine dQ amD (C150 _ m cut _ _ (yw.mk' u.hb (W _ u.aG) u.p1.dX u.p2.dX u.p3.Xe) E hb (Z _ u.aG) cK) ?_;rintro G _ O
 rcases O with⟨B,rfl,he⟩|⟨I,U,B,rfl,cL⟩
 .have u:=u.ext he;exact aQ rfl (aQ rfl (bW (jU ee (have u:=u.p3.p3.p3.p3;.inl ⟨B,rfl,(iK.shut u).mut⟩))))
 have u:=u.made cL;refine aQ rfl (aQ rfl (bW (fH ee (aE (aA Aq (aT u.p1 eg (dL rfl) u.dX.one λ_ u=>aE (aA r8 (have u:=u.drew;aB eg u.hb rfl (aE (aA Wh (aB eg u.hb rfl ?_)))))))))));refine LL u.p2 cS (W _ u.aG).2 cK (λ_ u=>aE (aA r8 (aB eg u.p1.hb rfl (LL u cS u.p2.dX (by rw[lY,List.length_drop];have M:I.length=m.of.length:=(by unfold fB at B;split at B<;>simp at B;rw[<- B,pa];exact V);omega) λ_ u=>AR (α:=km) u λJ _ u=>aE (aA r9 (aT u.p2 yI (dL rfl) (rfl) λ_ u=>?_))))))
 have u:=u.p4.drop.p4.drop.p1.p3.p3.p3;have M:I.length=m.of.length:=by unfold fB at B;split at B<;>simp at B;rw[<- B,pa];exact V
 rw[show m.l.drop m.dV.length=[]from List.drop_eq_nil_of_le cK,o6]at u;exact .inr ⟨_,B,rfl,(iK.shut (m:=mH m I) u).mut⟩
def Jw(of:List Int)(stays:Int)(dV:List Int):Mem:=⟨of.take stays.toNat,dV,dV,dV.take stays.toNat,λ_=>[]⟩
def psM(m:Mem):List Nat:=Ft m (fU m.of).toNat
theorem adU(m:Mem):(psM m).length=(fU m.of).toNat:=by unfold psM Ft;simp
def rQ{m:Mem}(B:wq m):0<=fU m.of:=by
 unfold fU;split
 .omega
 rename_i h
 have u:m.of.getD (m.of.length-1) 0∈m.of:=dD
 have:=(B.ofr _ u).1
 omega
def C53(of dV:List Int)(stays:Int)(av bv:Value)(w:World)(E:dA (λ_=>True) w av of)(I:dA (λ_=>True) w bv dV)(hlen:of.length=dV.length)(MF:of.length<=20)(iT:0<=stays/\stays<=of.length)(Gl:∀(k:Nat) (n:Int),(k:Int)<stays->of[k]?=some n->(n=tG of k\/(0<k/\n=tG of k-1))/\-10<=n/\n<=100):CR 53 [av,hZ stays,bv] w (λv w'=>∃(p:Nat) (ov fv:SV),v=.tuple #[.pointer (some ⟨p,0,none⟩),hZ 0]/\lg (sep (bH (ia ov) (of.take stays.toNat)) (sep (bH (ia fv) dV) (iK p (ia ov) (ia fv) (Jw of stays dV)))) w w'):=by
 have u:=St.start w;refine eX Tryz.func53 ?_;refine⟨λjv w'=>jv=.bool (decide (of.length≠dV.length\/20<of.length\/stays<0\/of.length<stays))/\w=w',aK cS (E.ext u.aG) (aK cS (I.ext u.aG) (bW (aC (λ_=>⟨N1 cK,rfl⟩) λ_=>aK cS (E.ext u.aG) (cO (aC (λ_=>⟨N1 cK,rfl⟩) λ_=>aR (aC (λ_=>⟨N1 cK,rfl⟩) λ_=>aK cS (E.ext u.aG) (cO ⟨yB cK,rfl⟩))))))),?_⟩;rintro _ w1 ⟨rfl,M⟩ _;subst M;refine aC (λmc=>absurd mc cK) (λmc=>jP cS (E.ext u.aG) cK cK λV W=>?_);have YW:=W _ E
 refine aK cS (YW.ext u.aG) ?_;refine⟨λmm l x w1=>∃(k:Nat) (last:Int),l=hZ last/\x=hZ (k:Int)/\mm=(of.take stays.toNat).length-k/\k<=(of.take stays.toNat).length/\last=tG of k-1/\-200<=last/\last<=200/\St w bD [] w1,⟨_,0,-1,rfl,rfl,rfl,l1 _,rfl,cK,cK,u⟩,?_⟩;rintro mm _ _ w2 ⟨k,last,rfl,rfl,rfl,xf,hlast,hl7,hl8,u⟩ _;have N3:(of.take stays.toNat).length=stays.toNat:=by rw[l0];omega
 refine aR (aC (λoZ=>?_) λoZ=>?_)
 .obtain⟨G,vx⟩:=gx (of.take stays.toNat) (i:=(k:Int).toNat) cK;refine aO cS YW cK vx (λ_ xd=>?_)
  have B:of[k]?=some G:=by
   have J:=vx;rw[J1]at J
   split at J
   .exact J
   .cases J
  obtain⟨hl1,Dg,hl3⟩:=Gl k _ cK B;refine aD bL (xd.ext u.aG) ⟨λjv w'=>jv=.bool (decide (G≠last+1/\(k=0\/G≠last)))/\w2=w',aN cK (bW (aC (λ_=>aH (aC (λ_=>⟨N1 cK,rfl⟩) λ_=>bW ⟨yB cK,rfl⟩)) λ_=>⟨jvF cK,rfl⟩)),?_⟩;rintro _ _ ⟨rfl,M⟩ _;subst M;refine aC (λCB=>absurd CB (by have:=Gl k G cK B;simp;omega)) (λCB=>?_);have hws:tG of (k+1)=G+1:=by unfold tG;rw[ej cK,Nat.add_sub_cancel,ob,B];rfl
  exact aN cK ⟨_,cK,k+1,G,rfl,rfl,rfl,cK,cK,cK,cK,u⟩
 refine jP cS (E.ext u.aG) cK cK (λs_x58 ajd=>?_);have O:=ajd _ E;refine dT Ou u (C83 _ _ _ (O.ext u.aG) (by first|omega|(rw[l0];omega))) (λx59 _ cL u=>dT Ou u (C83 _ _ _ (I.ext u.aG) (by first|omega|(rw[l0];omega))) λx61 _ cL u=>dT Ou u (C83 _ _ _ (I.ext u.aG) (by first|omega|(rw[l0];omega))) λx63 _ cL u=>AR (α:=km) u λU _ u=>?_);obtain⟨Y,rfl⟩:=u.p3.fI;obtain⟨ajg,rfl⟩:=u.p2.fI;obtain⟨axc,rfl⟩:=u.p1.fI;refine pop (Ee _ _ _ _ _ _ _ _ _ _) (nw u λZ _ u=>jP cS (I.ext u.aG) cK cK λagG ajh=>?_)
 have aji:=ajh _ I;exact dT Ou u (C83 _ _ _ (aji.ext u.aG) (by first|omega|(rw[l0];omega))) (λ_ _ _ u=>aE (aA Aq (aT u.p1 eg (dL rfl) u.dX.one λ_ u=>have u:=iK.shut (m:=Jw of stays dV) u.p4.p5.p4.p4.p5.p5;⟨Z,Y,ajg,rfl,(St.join (St.join u.p2).p1).fresh⟩)))
def adV:List Int->Int->Int
 | [],n=>n
 | c::cs,n=>adV cs (Bv (Bv (n*10000)+c))
def qF(l:List Int)(k:Nat):Int:=adV (l.take k) 0
theorem Hx:∀(l:List Int) (c n:Int),adV (l++[c]) n=Bv (Bv (adV l n*10000)+c)
 | [],_,_=>rfl
 | x::l,c,n=>Hx l c _
theorem Fu{l:List Int}{k:Nat}{c:Int}(h:l[k]?=some c):qF l (k+1)=Bv (Bv (qF l k*10000)+c):=by
 unfold qF;rw[ta,h];exact Hx _ _ _
def m9(p q:aS):Bool:=decide (q.kind=p.kind)&&decide (q.t=p.t)&&decide (q.i=p.i)&&decide (p.cut.length=0)
def C154(sv fv:Value)(xs:List aS)(φ:aS->Prop)(g:aS->Bool)(w:World)(hL:DL w sv xs)(Y:tE hH w fv φ g)(hφ:∀x∈xs,φ x)(hn:xs.length<=1073741824):CR 154 [sv,fv] w (λv w'=>v=hZ (sj g xs)/\Ext w w'):=by
 obtain⟨g0,first,cap,rfl,oG,Z⟩:=Y;have u:=St.start w;refine eX Tryz.func154 ?_;obtain⟨O,E,B⟩:=hL.open;have U:=B.1;refine aK fW (E.ext u.aG) ?_;refine⟨λm x M=>∃k:Nat,x=hZ (k:Int)/\m=xs.length-k/\k<=xs.length/\(∀y∈xs.take k,g y=false)/\St w bD [] M,⟨_,0,rfl,rfl,l1 _,ei,u⟩,?_⟩;rintro m _ M ⟨k,rfl,rfl,hk,I,u⟩ _;refine aR (aC (λjH=>?_) λ_=>⟨gN (nf .i64) (je (by rw[kW cK]at I;exact I)).symm,u.aG⟩);obtain⟨iu,V⟩:=gx O (i:=(k:Int).toNat) cK;obtain⟨W,G⟩:=gx xs (i:=(k:Int).toNat) cK
 obtain⟨Ug,rfl,Uh⟩:=B.2 _ _ _ V G;refine aO fW E cK V (λ_ ic=>aD j6 (ic.ext u.aG) (gT oG (Z _ W M u.aG ⟨Ug,rfl,(Uh.ext u.aG)⟩ (hφ _ (kO G))) ?_));rintro _ _ ⟨rfl,he⟩;have u:=u.ext he;exact aY (λJ=>⟨gN (nf .i64) (ma I G J).symm,u.aG⟩) (λJ=>aN cK ⟨_,cK,k+1,rfl,rfl,cK,dY I G J,u⟩)
def C89(sv fv:Value)(xs:List aS)(φ:aS->Prop)(g:aS->Bool)(w:World)(G:DL w sv xs)(E:tE hH w fv φ g)(B:∀x∈xs,φ x)(I:xs.length<=1073741824):CR 89 [sv,fv] w (λv w'=>v=.bool (xs.any g)/\Ext w w'):=by
 have u:=St.start w;refine eX Tryz.func89 ?_;exact aV amF u (C154 _ _ _ _ _ _ (G.ext u.aG) (E.ext u.aG) B cK) (λ_ _ u=>cR ⟨vb (kT _ _),u.aG⟩)
def jF(m:Mem)(c:Int):Int:=if Gp m c=true then m.l.getD c.toNat 0 else 0
def agJ(p:Nat)(m:Mem)(c:Int)(w:World)(B:yw w p m)(u:wq m):CR 227 [.pointer (some ⟨p,0,none⟩),hZ c] w (λv w'=>v=.tuple #[hZ (jF m c),hZ (if Gp m c=true then 0 else 1)]/\Ext w w'):=C227 p m c w B u
def Hy(m:Mem)(c n:Int):(fk m c n).of=m.of:=by unfold fk;grind
def ub(m:Mem)(c n:Int):(fk m c n).dV=m.dV:=by unfold fk;grind
def adW(m:Mem)(c:Int):(n7 m c).of=m.of:=by unfold n7;grind
def MI(m:Mem)(c:Int):(n7 m c).dV=m.dV:=by unfold n7;grind
def A7.write{ov fv:Value}{m:Mem}{w:World}{c n:Int}(h:A7 ov fv m w):A7 ov fv (fk m c n) w:=by grind[A7,fk]
theorem A7.out{ov fv:Value}{m:Mem}{w:World}{c:Int}(h:A7 ov fv m w):A7 ov fv (n7 m c) w:=by grind[A7,n7]
def jT(m:Mem)(x:bI):Mem:=if x.kind=3 then fk m x.cell x.n else if x.kind=7 then m else n7 m x.line
def te(t:Int)(x:bI):cH:=if x.kind=3 then⟨12,t,x.cell,x.n,0⟩else if x.kind=7 then⟨14,t,0,0,0⟩else⟨13,t,x.line,0,0⟩
end Go.Proofs.YtpdlpabnlkofmaaGreatDoor
namespace Go.Fw
def oB(F:Nat->Prop)(w0 w':World):Prop:=∀b,F b->w'.heap[b]?=w0.heap[b]?
section
variable {α σ:Type}[Flat σ] [D:Deep α σ] {w w0:World}{A F:Nat->Prop}{L:List HP}{v:Value}{xs:List α}{ts us:List σ}
theorem St.MJ{Φ:hM}(B:St w0 A (Fw.eG Φ::L) w):∃F,St w0 A (Fw.eG (oB F w)::L) w/\∀w',oB F w w'->Φ w':=by
 obtain⟨U,F,I,u,J,E,M,G⟩:=B.tQ
 exact⟨F,⟨B.aG,U,F,I,⟨λw' h=>h,u.2⟩,J,E,M,G⟩,λw' h=>u.1 w' h⟩
theorem oB.refl(F:Nat->Prop)(w:World):oB F w w:=λ_ _=>rfl
theorem MK(B:∀x y:σ,j0 x=j0 y->x=y):∀{ts us:List σ},ts.length=us.length->flat ts=flat us->ts=us
 | [],[],_,_=>rfl
 | t::ts,u::us,hl,h=>by
  rw[kL,kL]at h
  have:=List.append_inj h (by rw[xM,xM])
  rw[B _ _ this.1,MK B dD this.2]
 | [],_::_,hl,_=>by simp at hl
 | _::_,[],hl,_=>by simp at hl
theorem dA.func{S V:Nat->Prop}(B:∀x y:σ,j0 x=j0 y->x=y)(h:dA S w v ts)(U:dA V w v us):ts=us:=by
 obtain⟨a,cap,rfl,hc,h3⟩:=h
 obtain⟨a',CV,M,Y,u⟩:=U
 simp only[x6.injEq]at M
 obtain⟨rfl,I,rfl⟩:=M
 refine MK B I (List.ext_getElem? λj=>?_)
 have tS:(flat ts).length=(flat us).length:=by rw[dB,dB,I]
 by_cases O:j<(flat ts).length
 .have E:j<(flat us).length:=cK
  rcases h3 with⟨rfl,_⟩|⟨b,o,rfl,_,h5⟩
  .grind
  rcases u with⟨rfl,_⟩|⟨b',o',J,_,G⟩
  .grind
  simp only[oe.injEq,Addr.mk.injEq,and_true]at J
  obtain⟨rfl,rfl⟩:=J
  have Z:=h5 j _ (la O)
  have W:=G j _ (la E)
  unfold Cell at Z W
  grind
 grind
theorem oB.rd(h:∀w',oB F w w'->DL w' v xs)(G:dA (λ_=>True) w v ts)(hn:ts.length=xs.length):∀w',oB F w w'->dA (λ_=>True) w' v ts:=by
 intro w' M
 have CS:=G
 obtain⟨a,cap,rfl,hc,h3⟩:=G
 rcases h3 with⟨h3,h4⟩|⟨b,o,rfl,h4,h5⟩
 .grind[dA]
 cases ts with
 | nil=>exact⟨_,cap,rfl,hc,.inr ⟨b,o,rfl,λh=>absurd rfl h,λj c B=>by simp[kK]at B⟩⟩
 | cons t ts=>
  by_cases hF:F b
  .exact⟨_,cap,rfl,hc,.inr ⟨b,o,rfl,λ_=>trivial,λj c B=>(h5 j c B).of_eq (M b hF)⟩⟩
  .exfalso
   have h6:DL (ChangeMaps.setBlock w b (.map #[] 0)) (.slice (some ⟨b,o,none⟩) (t::ts).length cap) xs:=h _ λY O=>by
    simp only[ChangeMaps.setBlock];grind
   obtain⟨us,⟨a',CV,J,_,U⟩,V,_⟩:=h6
   simp only[x6.injEq]at J
   obtain⟨rfl,E,rfl⟩:=J
   have W:0<(flat us).length:=by rw[dB,<- E];exact abe ei (V1 (α:=σ))
   rcases U with⟨rfl,_⟩|⟨Y,o',I,_,Z⟩
   .simp at E
   .simp only[oe.injEq,Addr.mk.injEq,and_true]at I
    obtain⟨rfl,rfl⟩:=I
    have u:=Z 0 _ (la W)
    have hb:=(h5 0 _ (la (by rw[dB];exact abe ei (V1 (α:=σ))))).lt
    unfold Cell World.cell? at u
    dsimp only at u
    rw[kh _ hb]at u
    simp at u
theorem oB.fix(B:∀x y:σ,j0 x=j0 y->x=y)(h:∀w',oB F w w'->DL w' v xs):∃ts:List σ,ts.length=xs.length/\∀w',oB F w w'->dA (λ_=>True) w' v ts/\gM ts xs w':=by
 obtain⟨ts,I,G⟩:=(h w (oB.refl F w)).open
 refine⟨ts,G.1,λw' E=>?_⟩
 have h1:=oB.rd h I G.1 w' E
 obtain⟨us,u,J⟩:=(h w' E).open
 rw[dA.func B h1 u]at *
 grind
end
section
variable {P:Program}{T:Nat}{cx cy:Bool}{a b:Int}{K:Value->Prop}
theorem YX(h:0<=a-b/\a-b<=255)(k:K (.int .u8 (a-b))):eR P (kj .sub T cx cy (.int .u8 a) (.int .u8 b)) K:=
 ⟨_,(show pr P (kj .sub T cx cy (.int .u8 a) (.int .u8 b))=some (.int .u8 (a-b))from by
  show some (nf .u8 (IntKind.u8.wrap (a-b)))=_
  have:IntKind.u8.wrap (a-b)=a-b:=by
   unfold IntKind.wrap;simp[IntKind.bits,IntKind.signed];omega
  rw[this]),k⟩
theorem Ui{src u:TypeId}(h1:P.underlying src=some (.int .u8))(h2:P.underlying u=some (.int .i64))(h:0<=a/\a<=255)(k:K (hZ a)):eR P (convert src u (.int .u8 a)) K:=by
 refine⟨_,?_,k⟩
 unfold convert
 simp only[cX,cZ h1,cZ h2,mO]
 show some (nf .i64 (IntKind.i64.wrap a))=_
 rw[IntWalk.i64_in _ cK]
end
end Go.Fw
namespace Go.Proofs.YtpdlpabnlkofmaaGreatDoor
open Go.Fw
abbrev PD:=List (Bk×Bool)
def jr(b:Bk)(e:Bool)(p:PD):PD:=match b with
 | .nil=>p
 | .cons x c d r=>(.cons x c d r,e)::p
def gA:PD->PD
 | (.cons _ _ _ r,_)::p=>jr r false p
 | (.nil,_)::p=>p
 | []=>[]
def pb:PD->Option (bQ×Bk×Bk)
 | (.cons x a b _,_)::_=>some (x,a,b)
 | _=>none
def mI(x:bQ)(a:Bk)(p:PD):PD:=if x.n=0 then gA p else jr a false ((.cons {x with n:=x.n-1} a .nil .nil,true)::gA p)
def ky:PD->PD
 | []=>[]
 | (_,e)::p=>if e=true then p else ky p
structure jY where
 names:List ByteArray
 dP:List Int
 cD:PD
 fault:Int
 buf:List bI
def eI(t:jY)(l:List cA):Int×Bool:=if l.length=0 then(0,true)else((pO t.names t.dP l).1,decide ((pO t.names t.dP l).2=0))
def pe(t:jY)(s:ByteArray)(n:Int):jY:={t with dP:=t.dP.set (cU t.names s).toNat n}
def qG(t:jY)(x:bQ)(a b:Bk)(n:Int):jY×Bool:=
 if x.kind=1 then({pe t x.eD n with cD:=gA t.cD},true)
 else if x.kind=11 then({t with cD:=jr (if n=0 then b else a) false (gA t.cD)},true)
 else if x.kind=12 then({t with cD:=mI x a t.cD},true)
 else if x.kind=13 then({t with cD:=ky t.cD},true)
 else if x.kind=14 then(if n=0 then({t with fault:=1},false)else({t with cD:=gA t.cD},true))
 else(t,false)
def qH(t:jY):jY×Bool:=match pb t.cD with
 | none=>(t,false)
 | some (x,a,b)=>if (eI t x.e).2=true/\(eI t x.f).2=true then qG t x a b (eI t x.e).1 else({t with fault:=2},false)
def tf:Nat->jY->Option jY
 | 0,_=>none
 | n+1,t=>if (qH t).2=true then tf n (qH t).1 else some (qH t).1
def lX:Bk->Nat
 | .nil=>0
 | .cons x a b r=>(if x.kind=12 then x.n.toNat*(lX a+1)else lX a+lX b)+lX r+1
def gU(p:PD):Nat:=(p.map λq=>lX q.1).sum
theorem pU(q:Bk×Bool)(p:PD):gU (q::p)=lX q.1+gU p:=by simp[gU]
def C2(φ:bQ->Prop):Bk->Prop
 | .nil=>True
 | .cons x a b r=>φ x/\C2 φ a/\C2 φ b/\C2 φ r
theorem Uj{φ:bQ->Prop}:∀t:Bk,C2 φ t↔∀x∈t.flat,φ x:=by
 intro t
 induction t with
 | nil=>simp[C2,Bk.flat]
 | cons x a b r B E u=>
  simp only[C2,Bk.flat,B,E,u,sl,List.mem_append]
  grind
structure Fv(φ:bQ->Prop)(p:PD):Prop where
 ne:∀q∈p,q.1≠.nil
 st:∀q∈p,q.1.str
 al:∀q∈p,C2 φ q.1
section
variable {φ:bQ->Prop}{p:PD}{b:Bk}{e:Bool}
theorem Fv.tail{q:Bk×Bool}(h:Fv φ (q::p)):Fv φ p:=⟨λq u=>h.ne q (qb _ u),λq u=>h.st q (qb _ u),λq u=>h.al q (qb _ u)⟩
theorem Fv.push(h:Fv φ p)(G:b.str)(E:C2 φ b):Fv φ (jr b e p):=by
 cases b with
 | nil=>exact h
 | cons x c d r=>
  refine⟨?_,?_,?_⟩<;>intro q u<;>rcases sl.1 u with rfl|u
  .intro B;cases B
  .exact h.ne q u
  .exact G
  .exact h.st q u
  .exact E
  .exact h.al q u
theorem Fv.pop(h:Fv φ p):Fv φ (gA p):=by
 match p,h with
 | [],h=>exact h
 | (.nil,_)::p,h=>exact h.tail
 | (.cons x a b r,_)::p,h=>
  have B:=h.st _ (oD ..)
  have u:=h.al _ (oD ..)
  exact h.tail.push B.2.2.2.2.2.2 u.2.2.2
theorem Fv.leave:∀{p:PD},Fv φ p->Fv φ (ky p)
 | [],h=>h
 | (_,e)::p,h=>by
  unfold ky;split
  .exact h.tail
  .exact h.tail.leave
theorem Hz{x:bQ}{a b:Bk}(h:pb p=some (x,a,b)):∃r e u,p=(.cons x a b r,e)::u:=by
 match p,h with
 | (.cons y c d r,e)::u,h=>cases h;grind
theorem HA(u:Fv φ p)(h:pb p=none):p=[]:=by
 match p,u,h with
 | [],_,_=>rfl
 | (.nil,_)::_,u,_=>exact absurd rfl (u.ne _ (oD ..))
theorem sI:gU (jr b e p)=lX b+gU p:=by
 cases b with
 | nil=>simp[jr,lX]
 | cons x c d r=>exact pU _ _
theorem ML:∀p:PD,gU (ky p)<=gU p
 | []=>o1 _
 | (b,e)::p=>by
  have:=ML p
  grind[gU,ky]
theorem Uk(h:b≠.nil):1<=lX b:=by
 cases b with
 | nil=>grind
 | cons x c d r=>unfold lX;omega
theorem Dz(h:Fv φ p):p.length<=gU p:=by
 induction p with
 | nil=>simp
 | cons q p u=>
  have:=Uk (h.ne q (oD ..))
  have:=u h.tail
  rw[pU,oj];omega
theorem sJ{x:bQ}{a b r:Bk}:lX (.cons x a b r)=(if x.kind=12 then x.n.toNat*(lX a+1)else lX a+lX b)+lX r+1:=rfl
theorem PU{x:bQ}{a b r:Bk}{u:PD}(h:p=(.cons x a b r,e)::u):gU (gA p)+1<=gU p:=by
 subst h
 show gU (jr r false u)+1<=_
 rw[sI,pU,sJ];omega
end
structure sK(φ:bQ->Prop)(t:jY):Prop where
 p:Fv φ t.cD
 rl:t.dP.length=t.names.length
 nb:t.names.length<=1000
 bl:t.buf.length<=1000
 cl:gU t.cD<=10000
structure Ul(cs ls ns:List ByteArray)(x:bQ):Prop where
 k:1<=x.kind/\x.kind<=14
 e:x.e.length<=1000/\x.f.length<=1000
 n:x.kind=12->0<=x.n/\x.n<=1000
 el:¬ x.kind=11->x.eu<=0
 rg:x.kind=1\/x.kind=2\/x.kind=4->0<=cU ns x.eD
 cl:x.kind=2\/x.kind=3\/x.kind=4->0<=cU cs x.name
 lk:x.kind=9\/x.kind=10->0<=cU ls x.name
 nm:(∀y∈x.e,y.name.size<=1000)/\∀y∈x.f,y.name.size<=1000
abbrev yh(cs ls:List ByteArray)(t:jY):Prop:=sK (Ul cs ls t.names) t
section
variable {φ:bQ->Prop}{cs ls:List ByteArray}{t t' tR:jY}{x:bQ}{a b:Bk}{n:Int}{k:Nat}
theorem sK.cD{p:PD}(h:sK φ t)(u:Fv φ p)(hc:gU p<=gU t.cD):sK φ {t with cD:=p}:=⟨u,h.rl,h.nb,h.bl,wc hc h.cl⟩
theorem sK.flt(h:sK φ t)(n:Int):sK φ {t with fault:=n}:=⟨h.p,h.rl,h.nb,h.bl,h.cl⟩
theorem sK.set(h:sK φ t)(s:ByteArray)(n:Int):sK φ (pe t s n):=⟨h.p,by simp[pe,h.rl],h.nb,h.bl,h.cl⟩
theorem sK.top(h:sK φ t)(ht:pb t.cD=some (x,a,b)):φ x/\a.str/\b.str/\C2 φ a/\C2 φ b/\x.body=a.len/\x.eu=b.len/\a.len<=40/\∃r e p,t.cD=(.cons x a b r,e)::p/\r.str/\C2 φ r:=by
 obtain⟨r,e,p,u⟩:=Hz ht
 have h1:=h.p
 rw[u]at h1
 obtain⟨I,W,E,Y,O,B,U⟩:=h1.st _ (oD ..)
 obtain⟨G,V,J,M⟩:=h1.al _ (oD ..)
 grind
theorem adX(h:yh cs ls t)(ht:pb t.cD=some (x,a,b)):yh cs ls (qG t x a b n).1/\(qG t x a b n).1.names=t.names/\((qG t x a b n).2=true->gU (qG t x a b n).1.cD+1<=gU t.cD):=by
 obtain⟨B,V,sb,W,ab,hb,he,Z,r,e,p,I,sr,ar⟩:=h.top ht
 have E:=h.p.pop
 have O:=PU (r:=r) I
 have u:gU t.cD=lX (.cons x a b r)+gU p:=by rw[I,pU]
 have J:gA t.cD=jr r false p:=by rw[I];rfl
 have U:gU (gA t.cD)=lX r+gU p:=by rw[J,sI]
 rw[sJ]at u
 unfold qG
 split
 .exact⟨(h.set x.eD n).cD E (by show gU (gA t.cD)<=gU t.cD;omega),rfl,λ_=>O⟩
 split
 .rename_i T7
  rw[ej cK]at u
  have hc:gU (jr (if n=0 then b else a) false (gA t.cD))+1<=gU t.cD:=by rw[sI];grind
  refine⟨h.cD (Fv.push E ?_ ?_) cK,rfl,λ_=>hc⟩<;>split<;>assumption
 split
 .rename_i T7
  rw[ew T7]at u
  have hxn:=B.n T7
  have Lh:=B.el cK
  unfold mI
  split
  .exact⟨h.cD E cK,rfl,λ_=>O⟩
  rename_i Vo
  have M:gU (jr a false ((.cons {x with n:=x.n-1} a .nil .nil,true)::gA t.cD))+1<=gU t.cD:=by
   rw[sI,pU,sJ,ew (by exact T7),u,U]
   have e:x.n.toNat=(x.n-1).toNat+1:=cK
   rw[e,Nat.succ_mul]
   show lX a+((x.n-1).toNat*(lX a+1)+lX .nil+1+_)+1<=_
   simp only[lX];omega
  refine⟨h.cD (Fv.push ⟨?_,?_,?_⟩ V W) cK,rfl,λ_=>M⟩<;>intro q G<;>rcases sl.1 G with rfl|G
  .grind
  .exact E.ne q G
  .exact⟨hb,by show x.eu=((0:Nat):Int);omega,Z,l1 _,V,trivial,trivial⟩
  .exact E.st q G
  .exact⟨⟨B.k,B.e,λhk=>⟨dD,dD⟩,B.el,B.rg,B.cl,B.lk,B.nm⟩,W,trivial,trivial⟩
  exact E.al q G
 split
 .have Y:gU (ky t.cD)+1<=gU t.cD:=by
   rw[u,I];unfold ky
   have:=ML p
   grind
  exact⟨h.cD h.p.leave cK,rfl,λ_=>Y⟩
 split
 .split
  .exact⟨h.flt 1,rfl,λhh=>by cases hh⟩
  exact⟨h.cD E cK,rfl,λ_=>O⟩
 grind
theorem DB(h:yh cs ls t):yh cs ls (qH t).1/\(qH t).1.names=t.names/\((qH t).2=true->gU (qH t).1.cD+1<=gU t.cD):=by
 unfold qH
 cases ht:pb t.cD with
 | none=>grind
 | some q=>
  obtain⟨x,a,b⟩:=q
  dsimp only
  split
  .exact adX h ht
  .exact⟨h.flt 2,rfl,λu=>by cases u⟩
theorem HC:∀(n:Nat) {t:jY},yh cs ls t->gU t.cD<n->∃tR,tf n t=some tR/\yh cs ls tR/\tR.names=t.names
 | 0,_,_,hc=>by omega
 | n+1,t,h,hc=>by
  obtain⟨h1,h2,h3⟩:=DB h
  unfold tf
  split
  .rename_i hs
   have:=h3 hs
   have h4:yh cs ls (qH t).1:=by have:=h1;rw[yh,h2]at this |-;exact this
   obtain⟨tR,B,E,u⟩:=HC n h4 cK
   exact⟨tR,B,E,u.trans h2⟩
  grind
def goD(t:jY):jY:=(tf (gU t.cD+1) t).getD t
theorem qI(h:yh cs ls t):tf (gU t.cD+1) t=some (goD t)/\yh cs ls (goD t)/\(goD t).names=t.names:=by
 obtain⟨tR,B,E,u⟩:=HC (gU t.cD+1) h (Lo _)
 unfold goD
 grind
theorem HD{n:Nat}(h:tf n t=some tR):∃k,n=k+1:=by
 cases n with
 | zero=>cases h
 | succ k=>grind
theorem SA(h:tf (k+1) t=some tR)(u:qH t=(t',true)):tf k t'=some tR:=by
 unfold tf at h;rw[u]at h;exact h
theorem pf(h:tf (k+1) t=some tR)(u:qH t=(t',false)):tR=t':=by
 unfold tf at h;rw[u]at h;exact(oe.inj h).symm
theorem SB:∀(n:Nat) {t tR:jY},tf n t=some tR->yh cs ls t->tR.fault=0->∀x a b,pb tR.cD=some (x,a,b)->(2<=x.kind/\x.kind<=10)/\(eI tR x.e).2=true/\(eI tR x.f).2=true
 | 0,_,_,B,_,_,_,_,_,_=>by cases B
 | n+1,t,tR,B,h,u,x,a,b,ht=>by
  obtain⟨h1,h2,_⟩:=DB h
  unfold tf at B
  split at B
  .exact SB n B cK u x a b ht
  .rename_i hs
   cases B
   have hb:(qH t).2=false:=by simpa using hs
   unfold qH at hb u ht
   cases hq:pb t.cD with
   | none=>rw[hq]at ht;dsimp only at ht;rw[hq]at ht;cases ht
   | some q=>
    obtain⟨y,c,d⟩:=q
    rw[hq]at hb u ht
    dsimp only at hb u ht
    have E:=(h.top hq).1.k
    split at hb
    .rename_i hv
     rw[ew hv]at u ht
     unfold qG at hb u ht
     split at hb
     .cases hb
     rename_i k1
     rw[ej k1]at u ht
     split at hb
     .cases hb
     rename_i k2
     rw[ej k2]at u ht
     split at hb
     .cases hb
     rename_i k3
     rw[ej k3]at u ht
     split at hb
     .cases hb
     rename_i k4
     rw[ej k4]at u ht
     split at hb
     .rename_i k5
      rw[ew k5]at u
      split at hb
      .rename_i k6;rw[ew k6]at u;cases u
      .cases hb
     .rename_i k5
      rw[ej k5]at ht
      rw[hq]at ht;cases ht
      have e:(qH t).1=t:=by unfold qH;rw[hq];dsimp only;rw[ew hv];unfold qG;rw[ej k1,ej k2,ej k3,ej k4,ej k5]
      rw[e]
      exact⟨cK,hv⟩
    .rename_i hv
     rw[ej hv]at u;cases u
section
variable {e:Int}
theorem YY(h:x.kind=1):qG t x a b e=({pe t x.eD e with cD:=gA t.cD},true):=by unfold qG;grind
theorem Jy(h:x.kind=11):qG t x a b e=({t with cD:=jr (if e=0 then b else a) false (gA t.cD)},true):=by unfold qG;simp[h]
theorem SC(h:x.kind=12):qG t x a b e=({t with cD:=mI x a t.cD},true):=by unfold qG;simp[h]
theorem SD(h:x.kind=13):qG t x a b e=({t with cD:=ky t.cD},true):=by unfold qG;simp[h]
theorem MM(h:x.kind=14)(u:e=0):qG t x a b e=({t with fault:=1},false):=by unfold qG;grind
theorem MN(h:x.kind=14)(u:¬ e=0):qG t x a b e=({t with cD:=gA t.cD},true):=by unfold qG;grind
theorem SE(h1:¬ x.kind=1)(h2:¬ x.kind=11)(h3:¬ x.kind=12)(h4:¬ x.kind=13)(h5:¬ x.kind=14):qG t x a b e=(t,false):=by grind[qG]
end
theorem YZ(h:pb t.cD=none):qH t=(t,false):=by unfold qH;rw[h]
theorem Y0(h:pb t.cD=some (x,a,b))(h2:(eI t x.e).2=false):qH t=({t with fault:=2},false):=by unfold qH;grind
theorem Y3(h:pb t.cD=some (x,a,b))(h3:(eI t x.f).2=false):qH t=({t with fault:=2},false):=by unfold qH;grind
theorem Y4(h:pb t.cD=some (x,a,b))(h2:(eI t x.e).2=true)(h3:(eI t x.f).2=true):qH t=qG t x a b (eI t x.e).1:=by unfold qH;grind
end
def PV(E:Option Addr)(u B:Nat)(G:Bool):pr hH (l2 143 [(0,.slice E u B),(1,.bool G)].toArray)=some (.agg [.slice E u B,.bool G].toArray):=by kernel_rfl
structure xw where
 l:SV
 Jz:Bool
instance:Flat xw where
 agg:=true
 sz:=2
 enc e:=[.slice e.l.a e.l.n e.l.cap,.bool e.Jz]
 val e:=.agg [.slice e.l.a e.l.n e.l.cap,.bool e.Jz].toArray
 pos:=ee
 len _:=rfl
 one a v h:=by simp at h;rcases h with rfl|rfl<;>rfl
 nx _ _:=rfl
 nT h:=by cases h
variable (w:World) (K:Value->hM)
def S137(I:Value):Prop:=
 aL 193 w λa b=>nC I λc=>fA 138 c 3 λd=>lA 136 d b λe=>lN 136 e λf=>bB .eql 3 f (i 0) λg=>cV g (eR hH (l2 193 [].toArray) λh=>sA 193 a h b λj=>
 lA 193 a j λr=>K (.tuple #[r,(.slice none 0 0),(.slice none 0 0),ff]) j) (nC I λk=>fA 138 k 3 λl=>lA 136 l (drew b) λn=>nC I λo=>fA 138 o 3 λp=>lA 136 p (drew b) λq=>
 lN 136 q λs=>bB .sub 3 s (i 1) λt=>iA 136 n t λu=>fA 143 u 0 λv=>lA 141 v (drew b) λx=>iA 141 x (i 0) λy=>lA 193 y (drew b) λz=>aL 193 (drew b) λB V=>
 sA 193 B z V λE=>fA 193 B 6 λW=>lA 3 W E λae=>bC .add 3 (i 1) ae λG=>fA 193 B 7 λY=>lA 3 Y E λO=>bA .add 3 G O λJ=>lA 193 B (drew E) λZ=>
 eR hH (n4 141 x (some (i 1)) (some G) (some G)) λak=>eR hH (n4 141 x (some G) (some J) (some J)) λal=>sA 193 a Z (drew E) λM=>
 lA 193 a M λU=>K (.tuple #[U,ak,al,tt]) M)
def axe:dI:=λi=>match i with
 | 3=>.run 0 14
 | 7=>.run 0 14
 | _=>.nil
theorem adZ(u:Value)(h:S137 w K u):CR 137 [u] w K:=
 qO 50 axe 60 [.cell 2 193,.tmp 3,.tmp 4,.tmp 5] Tryz.func137 h
def axf:dI:=λi=>match i with
 | 3=>.run 0 14
 | _=>.nil
def S197(B:Value):Prop:=
 kJ (λE J a=>∀_:Env,
 fe (λK2=>eR hH (Op.unary .not J) λb=>cV b (nC B λc=>fA 138 c 3 λd=>lA 136 d a λe=>lN 136 e λf=>bB .gtr 3 f (i 0) λg=>K2 g a) (K2 ff a))
 (λh j=>∀_:Env,
 cV h (nC B λk=>fA 138 k 3 λl=>lA 136 l j λn=>lN 136 n λo=>bB .sub 3 o (i 1) λp=>nC B λq=>fA 138 q 3 λr=>lA 136 r j λs=>iA 136 s p λt=>fA 143 t 1 λu=>
 lA 4 u j λv=>nC B λx=>fA 138 x 3 λy=>lA 136 y j λz=>eR hH (n4 136 z none (some p) (some p)) λM=>nC B λG=>fA 138 G 3 λO=>sA 136 O M j λI=>
 E v I) (K (.tuple #[]) j))) (λE=>E ff w)
theorem ad0(u:Value)(h:S197 w K u):CR 197 [u] w K:=
 qO 38 (λ_=>.nil) 0 [] Tryz.func197 h
def S161(u E:Value):Prop:=
 lN 82 E λa=>bB .eql 3 a (i 0) λb=>cV b (K (.tuple #[(i 0),tt]) w) (nC u λc=>fA 138 c 1 λd=>lA 91 d (drew w) λe=>nC u λf=>fA 138 f 2 λg=>lA 41 g (drew w) λh=>
 cF 143 [E,e,h] (drew w) λj k=>xT j 0 λl=>xT j 1 λn=>yA (λB=>bB .neq 31 n (i 0) λo=>cV o (nC u λp=>fA 138 p 4 λq=>sA 3 q (i 2) k λr=>B r) (
 B k)) (λs=>∀_:Env,
 bB .eql 31 n (i 0) λt=>K (.tuple #[l,t]) s))
def axg:dI:=λi=>match i with
 | 3=>.run 0 15
 | _=>.nil
theorem ad1(u B:Value)(h:S161 w K u B):CR 161 [u,B] w K:=
 qO 32 axg 48 [.tmp 4,.tmp 5] Tryz.func161 h
def S117(B:Value):Prop:=
 Q9 (λE a=>∀_:Env,
 cF 137 [B] a λb c=>xT b 0 λd=>xT b 1 λe=>xT b 2 λf=>xT b 3 λg=>aL 193 c λh j=>sA 193 h d j λk=>eR hH (Op.unary .not g) λl=>cV l (K (.tuple #[]) k) (
 fA 193 h 3 λn=>lA 82 n k λo=>cF 161 [B,o] k λp q=>xT p 0 λr=>xT p 1 λs=>eR hH (Op.unary .not s) λt=>cV t (K (.tuple #[]) q) (fA 193 h 4 λu=>lA 82 u q λv=>
 cF 161 [B,v] q λx y=>xT x 0 λ_=>xT x 1 λz=>eR hH (Op.unary .not z) λaa=>cV aa (K (.tuple #[]) y) (fA 193 h 0 λab=>lA 3 ab y λI=>bB .eql 3 I (i 1) λad=>
 cV ad (nC B λae=>fA 138 ae 2 λU=>lA 41 U (drew y) λM=>nC B λV=>fA 138 V 1 λai=>lA 91 ai (drew y) λaj=>fA 193 h 1 λak=>lA 9 ak (drew y) λal=>
 cF 159 [aj,al] (drew y) λam O=>kA 41 U M O (iA 41 M am λao=>sA 3 ao r O λap=>cF 164 [B] ap λ_ aq=>E aq)) (bB .eql 3 I (i 11) λar=>cV ar (cF 164 [B] y λ_ G=>
 fe (λK2=>bB .eql 3 r (i 0) λau=>cV au (K2 f G) (K2 e G)) (λJ av=>∀_:Env,
 cF 116 [B,J,ff] av λ_ aw=>E aw)) (bB .eql 3 I (i 12) λax=>cV ax (lA 193 h y λay=>cF 196 [B,ay,e] y λ_ W=>E W) (bB .eql 3 I (i 13) λZ=>cV Z (cF 197 [B] y λ_ a1=>
 E a1) (bB .eql 3 I (i 14) λY=>cV Y (bB .eql 3 r (i 0) λa3=>cV a3 (nC B λa4=>fA 138 a4 4 λa5=>sA 3 a5 (i 1) y λa6=>K (.tuple #[]) a6) (cF 164 [B] y λ_ a7=>
 E a7)) (K (.tuple #[]) y))))))))) (λE=>E w)
def axh:dI:=λi=>match i with
 | 8=>(.of [(0,[]),(1,[]),(2,[]),(3,[]),(4,[]),(5,[]),(6,[]),(7,[]),(8,[]),(9,[]),(11,[]),(10,[3]),(12,[]),(13,[])])
 | _=>.nil
theorem ad2(u:Value)(h:S117 w K u):CR 117 [u] w K:=
 qO 83 axh 0 [] Tryz.func117 h
theorem MO:PL 116:=dJ Tryz.func116
theorem Y6:PL 137:=dJ Tryz.func137
theorem MP:PL 164:=dJ Tryz.func164
theorem aqA:PL 196:=dJ Tryz.func196
theorem aqB:PL 197:=dJ Tryz.func197
theorem MQ:PL 161:=dJ Tryz.func161
theorem agL:PL 117:=dJ Tryz.func117
theorem agM:PL 141:=dJ Tryz.func141
end Go.Proofs.YtpdlpabnlkofmaaGreatDoor
namespace Go.Fw
section
variable {P:Program}{w w0:World}{A S:Nat->Prop}{L:List HP}
theorem zN{n cap l h m:Nat}{lo hi u:Option Value}(G:lo=none/\l=0\/∃i:Int,lo=some (hZ i)/\0<=i/\l=i.toNat)(M:∃i:Int,hi=some (hZ i)/\0<=i/\h=i.toNat)(J:∃i:Int,u=some (hZ i)/\0<=i/\m=i.toNat)
  (h1:l<=h) (h2:h<=m) (h3:m<=cap):pr P (vw true n cap lo hi u)=some (l,h,m):=by
 obtain⟨j,rfl,E,rfl⟩:=M
 obtain⟨k,rfl,B,rfl⟩:=J
 rcases G with⟨rfl,rfl⟩|⟨i,rfl,I,rfl⟩<;>simp only[vw,cX,fQ,mO]
 .rw[jl B cK];simp only[mO];rw[jl E cK];rfl
 rw[jl B cK];simp only[mO];rw[jl E cK];simp only[mO];rw[jl I cK];rfl
theorem JA{T E sz I:Nat}{z:Option Nat}{a:Option Addr}{n cap l h m:Nat}{lo hi B:Option Value}(ht:eN P T=some (E,sz,I,z))
  (hb:pr P (vw true n cap lo hi B)=some (l,h,m)) :
  pr P (n4 T (.slice a n cap) lo hi B)=some (.slice (if m=l then a else a.map (·.add (l*sz))) (h-l) (m-l)):=by
 obtain⟨u,M,G,J,_⟩:=fp ht
 unfold n4
 rw[cX,cZ u]
 simp only[mO]
 unfold Instr.slice
 rw[cX,cZ u]
 simp only[mO]
 rw[cX,hb]
 simp only[mO]
 rw[cX,mS G,J]
 rfl
variable {α:Type}[Flat α] {xs:List α}
theorem dA.aqC{v:Value}{a:Option Addr}{n cap l h:Nat}(I:v=.slice a n cap)(M:dA S w v xs)(h1:l<=h)(h2:h<=xs.length) :
  dA S w (.slice (if h=l then a else a.map (·.add (l*mv α))) (h-l) (h-l)) ((xs.take h).drop l):=by
 obtain⟨V,Z,O,U,h3⟩:=M
 rw[O]at I
 simp only[x6.injEq]at I
 obtain⟨rfl,Y,rfl⟩:=I
 have hlen:((xs.take h).drop l).length=h-l:=by simp;omega
 rcases h3 with⟨G,W⟩|⟨b,o,rfl,h4,h5⟩
 .subst G
  exact⟨_,h-l,by rw[hlen],ei,.inl ⟨ei,by simp at h2;omega⟩⟩
 refine⟨_,h-l,by rw[hlen],by rw[hlen];exact o1 _,.inr ?_⟩
 have J:(xs.take h).drop l≠[]->xs≠[]:=λE B=>E (by rw[B];simp)
 by_cases E:h=l
 .rw[ew E]
  refine⟨b,o,rfl,λB=>h4 (J B),λj c u=>?_⟩
  have:((xs.take h).drop l)=[]:=by rw[<- r6,hlen];omega
  rw[this]at u;simp[kK]at u
 rw[ej E]
 refine⟨b,o+l*mv α,by simp[gE],λB=>h4 (J B),λj c u=>?_⟩
 rw[GQ,GP,HZ,J1]at u
 split at u
 .have:=h5 _ c u
  rwa [show o+(l*mv α+j)=o+l*mv α+j from cK]at this
 cases u
theorem MR{T E I:Nat}{z:Option Nat}{v:Value}{i j:Int}{K:Value->Prop}(ht:eN P T=some (E,mv α,I,z))(G:dA S w v xs)
  (J:0<=i) (h1:i<=j) (h2:j<=xs.length) (k:∀B,(∀w' (ys:List α),dA S w' v ys->dA S w' B ((ys.take j.toNat).drop i.toNat))->K B):eR P (n4 T v (some (hZ i)) (some (hZ j)) (some (hZ j))) K:=by
 obtain⟨a,cap,rfl,M,h3⟩:=G
 refine⟨_,JA ht (zN (.inr ⟨i,rfl,J,rfl⟩) ⟨j,rfl,cK,rfl⟩ ⟨j,rfl,cK,rfl⟩ cK (o1 _) cK),k _ λw' ys u=>u.aqC rfl cK ?_⟩
 obtain⟨_,_,h4,_⟩:=u
 grind
theorem Fx{T E I:Nat}{z:Option Nat}{v:Value}{i:Int}{K:Value->Prop}(ht:eN P T=some (E,mv α,I,z))(G:dA S w v xs)
  (J:0<=i) (h2:i<=xs.length) (k:∀B,(∀w' (ys:List α),dA S w' v ys->dA S w' B (ys.drop i.toNat))->K B):eR P (n4 T v (some (hZ i)) none none) K:=by
 obtain⟨a,cap,rfl,M,h3⟩:=G
 refine⟨_,wD ht (oq (.inr ⟨i,rfl,J,rfl⟩) (.inl ⟨rfl,rfl⟩) cK cK),k _ λw' ys u=>?_⟩
 have O:ys.length=xs.length:=by
  obtain⟨_,_,h4,_⟩:=u
  grind
 have:=u.cut rfl (show i.toNat<=ys.length by omega) (o1 _)
 grind
theorem CI{T E V:Nat}{z:Option Nat}{v:Value}{i:Int}{K:Value->Prop}(ht:eN P T=some (E,mv α,V,z))
  (O:St w0 A (bH v xs::L) w) (M:0<=i) (h1:i<=xs.length) (k:∀J,St w0 A (bH J (xs.take i.toNat)::L) w->K J):eR P (n4 T v none (some (hZ i)) (some (hZ i))) K:=by
 obtain⟨a,cap,u,Z,_⟩:=O.dX
 refine⟨_,(by rw[u];exact JA ht (zN (.inl ⟨rfl,rfl⟩) ⟨i,rfl,M,rfl⟩ ⟨i,rfl,M,rfl⟩ (l1 _) (o1 _) cK)),k _ ?_⟩
 refine O.ry λF G=>?_
 rcases G with⟨B,W,Y⟩|⟨b,CV,rest,U,hb,hl,G⟩
 .rw[B]at u
  subst W
  simp only[x6.injEq]at u
  obtain⟨rfl,_,rfl⟩:=u
  have hi:i.toNat=0:=by simp at h1;omega
  refine⟨F,.inl ⟨?_,ei,Y⟩,λb hb=>.inl hb,gu.refl _ _⟩
  rw[hi];rfl
 rw[U]at u
 simp only[x6.injEq]at u
 obtain⟨rfl,_,rfl⟩:=u
 have I:(xs.take i.toNat).length=i.toNat:=by rw[l0];omega
 refine⟨F,.inr ⟨b,i.toNat,flat (xs.drop i.toNat)++rest,?_,?_,⟨cK,?_⟩,G⟩,λb hb=>.inl hb,gu.refl _ _⟩
 .rw[I]
  simp[gE]
 .rw[<- n3,<- gF,List.take_append_drop];exact hb
 rw[lY,dB,I];omega
end
end Go.Fw
namespace Go.Proofs.YtpdlpabnlkofmaaGreatDoor
open Go.Fw
def rk(K:hM)(sv:SV)(rows:List bE)(l:List bQ)(w:World):Prop:=(∀w',K w'->gM rows l w')/\(K w->dA (λ_=>True) w (ia sv) rows)
abbrev PE:=List (xw×List bE)
def DC(K:hM)(w:World):PE->PD->Prop
 | [],[]=>True
 | e::es,q::p=>(e.1.Jz=q.2/\rk K e.1.l e.2 q.1.flat w)/\DC K w es p
 | _,_=>False
def Oa(es:PE):List xw:=(es.map Prod.fst).reverse
theorem Y7(e:xw×List bE)(es:PE):Oa (e::es)=Oa es++[e.1]:=by simp[Oa]
theorem rE(es:PE):(Oa es).length=es.length:=by simp[Oa]
theorem DC.len{K:hM}{w:World}:∀{es:PE}{p:PD},DC K w es p->es.length=p.length
 | [],[],_=>rfl
 | e::es,q::p,h=>by have:=DC.len h.2;simp[this]
 | [],_::_,h=>h.elim
 | _::_,[],h=>h.elim
def eO(K Φ:hM)(p:Nat)(room:Int)(t:jY):HP:=pH λu:Nat=>pH λB:SV=>pH λrg=>pH λpl=>pH λes:PE=>fact (∀w,K w->dA (λ_=>True) w (ia B) t.names)
 (sep (bY p [.pointer (some ⟨u,0,none⟩),ia B,rg,pl,hZ t.fault]) (sep (jj u room t.buf) (sep (bH rg t.dP) (sep (bH pl (Oa es)) (eG λw=>DC K w es t.cD/\Φ w)))))
abbrev rF(K:hM)(p:Nat)(room:Int)(t:jY):HP:=eO K (λ_=>True) p room t
section
variable {w w0:World}{A:Nat->Prop}{R:List HP}{p:Nat}{K Φ Ψ:hM}{room:Int}{t:jY}
theorem sL{H1 H2 E u B:HP}(G:St w0 A (sep H1 (sep H2 (sep E (sep u B)))::R) w):St w0 A (H1::H2::E::u::B::R) w:=by
 have h1:=G.split
 have h2:=h1.p1.split
 have h3:=h2.p1.split
 have h4:=h3.p1.split
 exact h4.p2.p3.p4
theorem sM{H1 H2 E u B:HP}(G:St w0 A (H1::H2::E::u::B::R) w):St w0 A (sep H1 (sep H2 (sep E (sep u B)))::R) w:=by
 have h4:=St.join G.p4.p4
 have h3:=St.join h4.p3
 have h2:=St.join h3.p2
 exact St.join h2.p1
abbrev A8(u:Nat)(B:SV)(rg pl:Value)(f:Int):List Value:=[.pointer (some ⟨u,0,none⟩),ia B,rg,pl,.int .i64 f]
theorem eO.open(u:St w0 A (eO K Φ p room t::R) w):∃B E rg pl es,(∀w,K w->dA (λ_=>True) w (ia E) t.names)/\
  St w0 A (bY p (A8 B E rg pl t.fault)::jj B room t.buf::bH rg t.dP::bH pl (Oa es)::eG (λw=>DC K w es t.cD/\Φ w)::R) w:=by
 obtain⟨B,u⟩:=u.eh;obtain⟨E,u⟩:=u.eh;obtain⟨rg,u⟩:=u.eh;obtain⟨pl,u⟩:=u.eh;obtain⟨es,u⟩:=u.eh;obtain⟨G,u⟩:=u.mw
 exact⟨B,E,rg,pl,es,G,sL u⟩
theorem eO.shut{u:Nat}{B:SV}{rg pl:Value}{es:PE}(E:∀w,K w->dA (λ_=>True) w (ia B) t.names)
  (G:St w0 A (bY p (A8 u B rg pl t.fault)::jj u room t.buf::bH rg t.dP::bH pl (Oa es)::eG (λw=>DC K w es t.cD/\Φ w)::R) w):St w0 A (eO K Φ p room t::R) w:=
 St.ek u (St.ek B (St.ek rg (St.ek pl (St.ek es (St.ou E (sM G))))))
theorem eO.mono(u:St w0 A (eO K Φ p room t::R) w)(h:∀w,Φ w->Ψ w):St w0 A (eO K Ψ p room t::R) w:=by
 obtain⟨G,I,rg,pl,es,E,u⟩:=eO.open u
 have h1:=u.p4.dM (Ψ:=λw=>DC K w es t.cD/\Ψ w) λw B=>⟨B.1,h w B.2⟩
 exact eO.shut E h1.p4.p4.p4.p4
theorem eO.now(u:St w0 A (eO K Φ p room t::R) w):Φ w:=by
 obtain⟨B,E,rg,pl,es,G,u⟩:=eO.open u
 exact u.p4.eG.2
theorem eO.rd(h:Has (eO K Φ p room t) w):∃B E rg pl es,(∀w,K w->dA (λ_=>True) w (ia E) t.names)/\mR w p (A8 B E rg pl t.fault)/\ua w B room t.buf/\dA (λ_=>True) w rg t.dP/\dA (λ_=>True) w pl (Oa es)/\DC K w es t.cD/\Φ w:=by
 obtain⟨F,u⟩:=h.st
 obtain⟨B,E,rg,pl,es,G,u⟩:=eO.open u
 exact⟨B,E,rg,pl,es,G,u.hb,Dy u.p1,u.p2.dX,u.p3.dX,u.p4.eG.1,u.p4.eG.2⟩
theorem jg{E:bE}{x:bQ}(h:mG w E x):∃u B:SV,E=⟨x.kind,x.eD,x.name,u,B,x.n,x.body,x.eu,x.at_⟩/\dA (λ_=>True) w (ia u) x.e/\dA (λ_=>True) w (ia B) x.f:=by
 obtain⟨u,B,h1,h2,h3⟩:=h
 exact⟨u,B,h1,DL.flat h2,DL.flat h3⟩
theorem gM.cut{rows:List bE}{l:List bQ}{i j:Nat}(h:gM rows l w):gM ((rows.take j).drop i) ((l.take j).drop i) w:=(h.take j).drop i
theorem apy{x:bQ}{a b r:Bk}(h:(Bk.cons x a b r).str){j:Int}(B:j=1+x.body):(((Bk.cons x a b r).flat.take j.toNat).drop (1:Int).toNat)=a.flat:=by
 obtain⟨u,_⟩:=h
 have E:=a.cY
 rw[vp _ (a:=1) (c:=(1:Int).toNat) (n:=a.flat.length) cK rfl]
 show(a.flat++(b.flat++r.flat)).take _=_
 grind
theorem apz{x:bQ}{a b r:Bk}(h:(Bk.cons x a b r).str){i j:Int}(hi:i=1+x.body)(B:j=1+x.body+x.eu):(((Bk.cons x a b r).flat.take j.toNat).drop i.toNat)=b.flat:=by
 obtain⟨u,G,_⟩:=h
 have E:=a.cY
 have lb:=b.cY
 rw[vp _ (a:=1+a.flat.length) (n:=b.flat.length) cK cK,<- List.drop_drop]
 show((a.flat++(b.flat++r.flat)).drop _).take _=_
 grind
theorem rk.cut{sv u:SV}{rows:List bE}{l:List bQ}{i j:Nat}(h:rk K sv rows l w)(hc:∀w' (ys:List bE),dA (λ_=>True) w' (ia sv) ys->dA (λ_=>True) w' (ia u) ((ys.take j).drop i)):rk K u ((rows.take j).drop i) ((l.take j).drop i) w:=
 ⟨λw' B=>gM.cut (h.1 w' B),λB=>hc _ _ (h.2 B)⟩
theorem rk.WA{sv u:SV}{rows:List bE}{l:List bQ}{i:Nat}(h:rk K sv rows l w)(hc:∀w' (ys:List bE),dA (λ_=>True) w' (ia sv) ys->dA (λ_=>True) w' (ia u) (ys.drop i)):rk K u (rows.drop i) (l.drop i) w:=
 ⟨λw' B=>(h.1 w' B).drop i,λB=>hc _ _ (h.2 B)⟩
theorem DC.top{es:PE}{q:Bk×Bool}{p:PD}(h:DC K w es (q::p)):∃sv rows u,es=(⟨sv,q.2⟩,rows)::u/\rk K sv rows q.1.flat w/\DC K w u p:=by
 match es,h with
 | [],h=>exact h.elim
 | e::es,h=>
  obtain⟨⟨sv,B⟩,rows⟩:=e
  obtain⟨⟨h1,h2⟩,h3⟩:=h
  grind
theorem DC.cons{sv:SV}{e:Bool}{rows:List bE}{es:PE}{q:Bk×Bool}{p:PD}(h:DC K w ((⟨sv,e⟩,rows)::es) (q::p)):rk K sv rows q.1.flat w/\DC K w es p:=⟨h.1.2,h.2⟩
theorem Fy{e:xw×List bE}{es:PE}:(Oa (e::es))[es.length]?=some e.1:=by grind[Oa]
theorem SF{e:xw×List bE}{es:PE}:(Oa (e::es)).take es.length=Oa es:=by grind[Oa]
end
theorem C116(K Φ:hM)(p:Nat)(room:Int)(t:jY)(F:Nat->Prop)(lv:SV)(rows:List bE)(b:Bk)(e:Bool)(w:World)(W:(eO K Φ p room t).p w F)(E:∀w',gu F w w'->K w')(G:∀w,Φ w->rk K lv rows b.flat w)(oG:t.cD.length<=100000) :
    CR 116 [.pointer (some ⟨p,0,none⟩),ia lv,.bool e] w (λv w'=>v=.tuple #[]/\mP F (eO K Φ p room {t with cD:=jr b e t.cD}) w w'):=by
 have u:=St.begin W;refine eX Tryz.func116 ?_;obtain⟨U,O⟩:=G _ (eO.now u);have hlen:=(U _ (E _ u.aG)).1;refine aK fq (O (E _ u.aG)) (cO (aC (λc=>?_) λc=>?_));rotate_left
 .have hb:b=.nil:=by
   cases b with
   | nil=>rfl
   | cons y a B r=>simp[Bk.flat]at hlen;omega
  subst hb;exact⟨rfl,u.mut⟩
 obtain⟨y,a,B,r,rfl⟩:=Bk.Dt (t:=b) cK;obtain⟨Y,nv,rg,pl,es,M,u⟩:=eO.open u;have Z:=u.p4.eG.1.len;refine aE (aA jM (aB rX u.hb rfl (pop (PV lv.a lv.n lv.cap e) (aZ ([(⟨lv,e⟩:xw)]) u uA rfl rfl (dL rfl) λI _ u=>?_))));have V:=u.dX;refine bJ u.p4 uA V (by rw[rE];simp;omega) ee (λJ _ u=>have u:=u.p1.drop;aE (aA jM (aT u.p1 rX (dL rfl) u.dX.one λ_ u=>?_)));have u:=u.p4.dM (Ψ:=λw=>DC K w ((⟨lv,e⟩,rows)::es) ((.cons y a B r,e)::t.cD)/\Φ w) (λw h=>⟨⟨⟨rfl,G w h.2⟩,h.1⟩,h.2⟩)
 have u:=u.p2;rw[<- Y7 (⟨lv,e⟩,rows) es]at u;have u:=eO.shut (Φ:=Φ) (t:={t with cD:=(.cons y a B r,e)::t.cD}) M u.p1.p1.p4.p4.p4;exact⟨rfl,u.mut⟩
def C164(K Φ:hM)(p:Nat)(room:Int)(t:jY)(F:Nat->Prop)(y:bQ)(a b r:Bk)(e:Bool)(B:PD)(w:World)(hF:(eO K Φ p room t).p w F)(U:∀w',gu F w w'->K w')(Bu:t.cD=(.cons y a b r,e)::B)(iT:(Bk.cons y a b r).str)(oG:t.cD.length<=100000) :
   CR 164 [.pointer (some ⟨p,0,none⟩)] w (λv w'=>v=.tuple #[]/\mP F (eO K Φ p room {t with cD:=gA t.cD}) w w'):=by
 have M:gA t.cD=jr r false B:=by rw[Bu];rfl
 have Y:B.length<=100000:=dD
 have u:=St.begin hF;refine oH Tryz.func164 (pl:=axf) ?_;obtain⟨bp,nv,rg,pl,es,hk,u⟩:=eO.open u;have E:=u.p4.eG.1;rw[Bu]at E;obtain⟨sv,rows,Um,rfl,⟨yS,CS⟩,_⟩:=E.top;have Lh:=E.len;rw[oj,oj]at Lh;have Pz:=yS _ (U _ u.aG);have Gq:=Pz.1;have tS:=(Bk.cons y a b r).cY
 change rows.length=(Bk.cons y a b r).flat.length at Gq
 obtain⟨Kc,hb2,hb3,hb4,_⟩:=id iT;simp only[Bk.len]at tS;obtain⟨t0,Z⟩:∃t0,rows[(0:Int).toNat]?=some t0:=⟨_,la (by simp;omega)⟩;obtain⟨ge,gf,rfl,_,_⟩:=jg (Pz.2 0 _ y Z rfl);refine aE (aA jM (aB rX u.hb rfl (aK uA u.p3.dX ?_)));rw[rE,oj];refine fg cK ?_;rw[show((Um.length+1:Nat):Int)-1=(Um.length:Int)from cK];refine aE (aA jM (aB rX u.hb rfl (aO uA u.p3.dX cK (by rw[pQ];exact Fy) λq hq=>bV sv KY hq rfl rfl λq2 Ke=>aD jN Ke (aE (aA jM (aB rX u.hb rfl (have u:=u.p3;CI uA u cK (by rw[rE,oj];omega) λs25 u=>?_)))))))
 rw[pQ,SF]at u;refine aE (aA jM (aT u.p1 rX (dL rfl) u.dX.one λ_ u=>?_));have u:=u.drew.p4;rw[Bu]at u;have u:=u.dM (Ψ:=λw=>DC K w Um B/\(Φ w/\rk K sv rows (Bk.cons y a b r).flat w)) (λ_ h=>⟨h.1.2,h.2,h.1.1.2⟩);have I:=u.eG.2.2.2 (U _ u.aG);have u:=eO.shut (Φ:=λw=>Φ w/\rk K sv rows (Bk.cons y a b r).flat w) (t:={t with cD:=B}) hk u.p2.p4.p4.p4;refine aO fq I cK Z (λq3 O=>bV y.body iW O rfl rfl λq4 V=>aD bL V (aN cK (aO fq I cK Z λq5 J=>bV y.eu iF J rfl rfl λq6 hq6=>aD bL hq6 (aN cK (Fx fq I cK cK λs40 G=>?_)))))
 obtain⟨W,rfl⟩:=(G _ _ I).fI;refine bF MO u (H':=λ_=>eO K (λw=>Φ w/\rk K sv rows (Bk.cons y a b r).flat w) p room {t with cD:=jr r false B}) (Φ:=λ_ _=>True) (λF2 eb dW=>?_) ?_
 .refine(C116 K _ p room {t with cD:=B} F2 W (rows.drop (1+y.body+y.eu).toNat) r false _ eb (λw' hc=>U w' (dW w' hc).aG) (λw h=>?_) Y).mono λ_ _ r=>r.mono λ_ _ h=>⟨trivial,h.2⟩;have:=h.2.WA G;rw[Bk.aii iT rfl]at this;exact this
 rintro _ _ _ u;rw[<- M]at u;exact⟨rfl,(eO.mono u λ_ h=>h.1).mut⟩
theorem C137(K:hM)(p:Nat)(t:jY)(bp:Nat)(nv:SV)(rg pl:Value)(es:PE)(φ:bQ->Prop)(w:World)(sN:mR w p (A8 bp nv rg pl t.fault))(Uo:dA (λ_=>True) w pl (Oa es))(Z:DC K w es t.cD)
   (hw:∀w',Ext w w'->K w') (B:Fv φ t.cD) (hl:t.cD.length<=100000):CR 137 [.pointer (some ⟨p,0,none⟩)] w (λv w'=>Ext w w'/\((pb t.cD=none/\v=.tuple #[ia (⟨0,⟨#[]⟩,⟨#[]⟩,bX,bX,0,0,0,0⟩:bE),.slice none 0 0,.slice none 0 0,.bool false])\/
    ∃x a b xv av bv ra rb,pb t.cD=some (x,a,b)/\v=.tuple #[ia (xv:bE),ia (av:SV),ia (bv:SV),.bool true]/\(∀w',K w'->mG w' xv x)/\∀M,DC K M es t.cD->rk K av ra a.flat M/\rk K bv rb b.flat M)):=by
 have W:=sN.cell (o:=3) rfl;have J:=Z.len;have u:=St.start w;refine adZ _ _ _ ?_;unfold S137;refine aM u jw (λb2 _ u=>have u:=u.enc (cs':=j0 (⟨0,⟨#[]⟩,⟨#[]⟩,bX,bX,0,0,0,0⟩:bE)) rfl;aE (aA jM (bM rX (W.ext u.aG) (aK uA (Uo.ext u.aG) ?_))));rw[rE];refine aH (aC (λc=>?_) λc=>?_)
 .have N8:t.cD=[]:=r6.1 cK;exact pop (v:=ia (⟨0,⟨#[]⟩,⟨#[]⟩,bX,bX,0,0,0,0⟩:bE)) (by kernel_rfl) (aJ (x:=(⟨0,⟨#[]⟩,⟨#[]⟩,bX,bX,0,0,0,0⟩:bE)) u eL rfl rfl λ_ u=>aD eL u.At ⟨u.drop.aG,.inl ⟨by rw[N8];rfl,rfl⟩⟩)
 obtain⟨cD,U⟩:∃q,q=t.cD:=⟨_,rfl⟩;rw[<- U]at Z B J hl |-;cases cD with
 | nil=>exact absurd (show((es.length:Nat):Int)=0 by have h0:es.length=0:=J;omega) c
 | cons q p'=>
 obtain⟨q1,e⟩:=q;cases q1 with
 | nil=>exact absurd rfl (B.ne _ (oD ..))
 | cons y a b r=>
 have O:=B.st _ (oD ..);obtain⟨sv,rows,Um,rfl,⟨yS,CS⟩,_⟩:=Z.top;have Pz:=yS _ (hw _ (Ext.refl _));have Gq:=Pz.1;have tS:=(Bk.cons y a b r).cY
 change rows.length=(Bk.cons y a b r).flat.length at Gq
 obtain⟨Kc,hb2,hb3,hb4,_⟩:=id O;simp only[Bk.len]at tS;rw[oj]at J c;rw[oj]at J hl;obtain⟨t0,Un⟩:∃t0,rows[(0:Int).toNat]?=some t0:=⟨_,la (by simp;omega)⟩;obtain⟨ge,gf,rfl,_,_⟩:=jg (Pz.2 0 _ y Un rfl);have E:=CS (hw _ (Ext.refl _));have u:=u.drew;refine aE (aA jM (bM rX (W.ext u.aG) (aE (aA jM (bM rX (W.ext u.aG) (aK uA (Uo.ext u.aG) ?_))))));rw[rE,oj];refine fg cK ?_;rw[show((Um.length+1:Nat):Int)-1=(Um.length:Int)from cK];refine aO uA (Uo.ext u.aG) cK (by rw[pQ];exact Fy) (λq hq=>bV sv KY hq rfl rfl λq2 Ke=>aD jN Ke (aO fq (E.ext u.aG) cK Un λq3 V=>aD eL V (aM u jw λb7 _ u=>aJ (x:=(⟨y.kind,y.eD,y.name,ge,gf,y.n,y.body,y.eu,y.at_⟩:bE)) u eL rfl rfl λ_ u=>aA iW (aB (v:=hZ y.body) bL u.hb rfl (aN cK (aA iF (aB (v:=hZ y.eu) bL u.hb rfl (aN cK ?_))))))))
 have u:=u.drew;refine aD eL u.At (MR fq (E.ext u.aG) cK cK cK λs44 I=>?_);obtain⟨axm,rfl⟩:=(I _ _ E).fI;refine MR fq (E.ext u.aG) cK cK cK (λs49 G=>?_);obtain⟨Y,rfl⟩:=(G _ _ E).fI;refine aJ (x:=(⟨y.kind,y.eD,y.name,ge,gf,y.n,y.body,y.eu,y.at_⟩:bE)) u.p1 eL rfl rfl (λ_ u=>aD eL u.At ?_);refine⟨u.drop.drop.aG,.inr ⟨y,a,b,_,axm,Y,(rows.take (1+y.body).toNat).drop (1:Int).toNat,(rows.take (1+y.body+y.eu).toNat).drop (1+y.body).toNat,rfl,rfl,λw' hk=>(yS w' hk).2 0 _ y Un rfl,λM h2=>?_⟩⟩;have h3:=h2.cons.1
 refine⟨?_,?_⟩
 .have:=h3.cut I;rw[apy O rfl]at this;exact this
 have:=h3.cut G;rw[apz O rfl rfl]at this;exact this
theorem C197(K Φ:hM)(p:Nat)(room:Int)(t:jY)(F:Nat->Prop)(w:World)(hF:(eO K Φ p room t).p w F)(hK:∀w',gu F w w'->K w')(oG:t.cD.length<=100000) :
   CR 197 [.pointer (some ⟨p,0,none⟩)] w (λv w'=>v=.tuple #[]/\mP F (eO K Φ p room {t with cD:=ky t.cD}) w w'):=by
 have u:=St.begin hF;refine ad0 _ _ _ ?_;unfold S197;refine⟨λm ev M=>∃(E:Bool) (B:PD),ev=.bool E/\m=B.length+(if E then 0 else 1)/\B.length<=100000/\ky t.cD=(if E=true then B else ky B)/\St w F [eO K Φ p room {t with cD:=B}] M,⟨_,false,t.cD,rfl,rfl,oG,rfl,u⟩,?_⟩;rintro m _ M ⟨E,B,rfl,rfl,Y,G,u⟩ _;obtain⟨bp,nv,rg,pl,es,U,u⟩:=eO.open u;have J:=u.p4.eG.1;have V:=J.len
 change es.length=B.length at V
 refine⟨λjv w'=>jv=.bool (!E&&decide (0<B.length))/\w'=M,?_,?_⟩
 .refine bR ?_;cases E with
  | true=>exact ft ⟨rfl,rfl⟩
  | false=>
   refine iw (aE (aA jM (aB rX u.hb rfl (aK uA u.p3.dX ?_))));rw[rE];refine cO ?_;exact⟨vb (by rw[NY,yk];exact ga.2 cK),rfl⟩
 rintro _ _ ⟨rfl,rfl⟩ _;refine aY (λc=>?_) (λc=>?_);rotate_left
 .have hd:ky t.cD=B:=by
   rw[G];cases E with
   | true=>rfl
   | false=>
    have:B=[]:=r6.1 (by have:=g6 (by simpa only[NY,yk]using c);omega);rw[this];rfl
  rw[hd];exact⟨rfl,(eO.shut (t:={t with cD:=B}) U u).mut⟩
 rw[Bool.and_eq_true,Bool.not_eq_true',decide_eq_true_eq]at c;obtain⟨rfl,Ag⟩:=c;cases B with
 | nil=>simp at Ag
 | cons q I=>
 obtain⟨q1,e⟩:=q;obtain⟨sv,rows,O,rfl,_,_⟩:=J.top;rw[oj,oj]at V;rw[oj]at Y;refine aE (aA jM (aB rX u.hb rfl (aK uA u.p3.dX ?_)));rw[rE,oj];refine fg cK ?_;rw[show((O.length+1:Nat):Int)-1=(O.length:Int)from cK];refine aE (aA jM (aB rX u.hb rfl (aO uA u.p3.dX cK (by rw[pQ];exact Fy) λq hq=>bV e Wb hq rfl rfl λq2 Z=>aD Ak Z (aE (aA jM (aB rX u.hb rfl (have u:=u.p3;CI uA u cK (by rw[rE,oj];omega) λW u=>?_)))))))
 rw[pQ,SF]at u;refine aE (aA jM (aT u.p1 rX (dL rfl) u.dX.one λ_ u=>have u:=u.p4.dM (Ψ:=λw=>DC K w O I/\Φ w) (λ_ h=>⟨h.1.2,h.2⟩);have u:=eO.shut (Φ:=Φ) (t:={t with cD:=I}) U u.p2.p4.p4.p4;⟨_,?_,e,I,rfl,rfl,cK,?_,u⟩))
 .show I.length+(if e=true then 0 else 1)<I.length+1+1
  split<;>omega
 rw[G];rfl
def C161(K Φ:hM)(p:Nat)(room:Int)(t:jY)(F:Nat->Prop)(lv:Value)(xs:List cA)(w:World)(U:(eO K Φ p room t).p w F)(M:∀w',gu F w w'->K w')(G:dA (λ_=>True) w lv xs)(O:xs.length<=1048576)(J:t.names.length<=1048576) :
   CR 161 [.pointer (some ⟨p,0,none⟩),lv] w (λv w'=>v=.tuple #[hZ (eI t xs).1,.bool (eI t xs).2]/\mP F (eO K Φ p room {t with fault:=if (eI t xs).2=true then t.fault else 2}) w w'):=by
 have u:=St.begin U;refine ad1 _ _ _ _ ?_;unfold S161;refine aK gV G (aH (aC (λc=>?_) λc=>?_))
 .have B:eI t xs=(0,true):=by unfold eI;rw[ew cK]
  rw[B];exact⟨rfl,u.mut⟩
 have B:eI t xs=((pO t.names t.dP xs).1,decide ((pO t.names t.dP xs).2=0)):=by unfold eI;rw[ej cK]
 obtain⟨V,W,rg,pl,es,E,u⟩:=eO.open u;have u:=u.drew;refine aE (aA Ao (aB ji u.hb rfl (aE (aA Ap (aB eg u.hb rfl (aV af9 u (C143 _ _ _ xs t.names t.dP _ (G.ext (Ext.drew w)) (E _ (M _ u.aG)) u.p2.dX O J) λ_ Y u=>aQ rfl (aQ rfl ⟨λw'=>St w F [eO K Φ p room {t with fault:=if (eI t xs).2=true then t.fault else 2}] w',bW (aC (λI=>?_) λI=>?_),?_⟩)))))))
 .refine aE (aA wJ (aT u bL (dL rfl) rfl λ_ u=>?_));have ht:{t with fault:=2}={t with fault:=if (eI t xs).2=true then t.fault else 2}:=by rw[B];dsimp only;rw[fN I];rfl
  rw[<- ht];exact eO.shut (t:={t with fault:=2}) E u
 .have ht:t={t with fault:=if (eI t xs).2=true then t.fault else 2}:=by rw[B];dsimp only;rw[ez cK];rfl
  rw[<- ht];exact eO.shut E u
 intro _ u _;exact aH ⟨by rw[B],u.mut⟩
def eO.ajj{w w0:World}{A:Nat->Prop}{R:List HP}{p:Nat}{K Φ Ψ:hM}{room:Int}{t:jY}(u:St w0 A (eG Ψ::eO K Φ p room t::R) w):St w0 A (eO K (λw=>Φ w/\Ψ w) p room t::R) w:=by
 obtain⟨E,G,rg,pl,es,B,u⟩:=eO.open u.p1
 have h1:=u.p5.p5.gZ.dM (Ψ:=λw=>DC K w es t.cD/\Φ w/\Ψ w) λw h=>⟨h.1.1,h.1.2,h.2⟩
 exact eO.shut B h1.p4.p4.p4.p4
theorem gM.cons{w:World}{t:bE}{x:bQ}{ts:List bE}{xs:List bQ}(h:mG w t x)(u:gM ts xs w):gM (t::ts) (x::xs) w:=by
 refine⟨by simp[u.1],λi t' B h1 h2=>?_⟩
 cases i with
 | zero=>simp at h1 h2;subst h1 h2;exact h
 | succ i=>exact u.2 i t' B (by simpa using h1) (by simpa using h2)
theorem PW(x:bQ)(a:Bk):(Bk.cons x a .nil .nil).flat=x::a.flat:=by simp[Bk.flat]
theorem C196(K Φ:hM)(p:Nat)(room:Int)(t:jY)(F:Nat->Prop)(x:bQ)(xv:bE)(av:SV)(O:List bE)(a b r:Bk)(e:Bool)(U:PD)(w:World)(hF:(eO K Φ p room t).p w F)(J:∀w',gu F w w'->K w')(Bu:t.cD=(.cons x a b r,e)::U)(iT:(Bk.cons x a b r).str)(oG:t.cD.length<=90000)
   (zX:∀w,K w->mG w xv x) (hΦ:∀w,Φ w->rk K av O a.flat w) (hn:0<=x.n/\x.n<=1000) :
   CR 196 [.pointer (some ⟨p,0,none⟩),ia xv,ia av] w (λv w'=>v=.tuple #[]/\mP F (eO K Φ p room {t with cD:=mI x a t.cD}) w w'):=by
 have u:=St.begin hF;obtain⟨B,E,rfl,_,_⟩:=jg (zX _ (J _ u.aG));have TP:a.flat.length<=40:=by rw[Bk.cY];exact iT.2.2.1
 have hppl:(gA t.cD).length<=90001:=by
  rw[Bu];show(jr r false U).length<=_;rw[Bu,oj]at oG;cases r with
  | nil=>show U.length<=_;omega
  | cons _ _ _ _=>show U.length+1<=_;omega
 refine eX Tryz.func196 ?_;refine cI (x:=(⟨x.kind,x.eD,x.name,B,E,x.n,x.body,x.eu,x.at_⟩:bE)) u (λb4 _ u=>bF MP u.p1 (H':=λ_=>eO K (Φ) p room {t with cD:=gA t.cD}) (Φ:=λ_ _=>True) (λV M W=>?_) ?_)
 .exact(C164 K _ p room t V x a b r e U _ M (λw' hc=>J w' (W w' hc).aG) Bu iT cK).mono λ_ _ r=>r.mono λ_ _ h=>⟨trivial,h.2⟩
 rintro _ _ _ u;refine aA jO (aB (v:=hZ x.n) bL u.p1.hb rfl (aH (aC (λc=>?_) λc=>?_)))
 .rw[show mI x a t.cD=gA t.cD from by unfold mI;rw[ew c]];exact⟨rfl,u.p1.drop.mut⟩
 rw[show mI x a t.cD=jr a false ((.cons {x with n:=x.n-1} a .nil .nil,true)::gA t.cD)from by unfold mI;rw[ej c]];refine aD eL u.p1.At (aZ ([⟨x.kind,x.eD,x.name,B,E,x.n,x.body,x.eu,x.at_⟩]:List bE) u fq rfl rfl (dL rfl) λs13 _ u=>?_);have G:=hΦ _ (eO.now u.p1);have hral:=(G.1 _ (J _ u.aG)).1;refine bJ u fq (G.2 (J _ u.aG)) (by simp;omega) ee (λs15 _ u=>dR u fq cK ei λq17 h17=>my jO h17 λq18 h18=>nF (x.n:Int) u bL h18 (x:=(⟨x.kind,x.eD,x.name,B,E,x.n,x.body,x.eu,x.at_⟩:bE)) rfl rfl (fg cK (dR u fq cK ei λq21 Y=>my jO Y λq22 Z=>Ww (x:=(⟨x.kind,x.eD,x.name,B,E,x.n,x.body,x.eu,x.at_⟩:bE)) (⟨x.kind,x.eD,x.name,B,E,x.n-1,x.body,x.eu,x.at_⟩:bE) (x.n-1:Int) u bL Z rfl ee rfl λ_ u=>?_)))
 obtain⟨I,rfl⟩:=u.dX.fI;have u:=eO.ajj u.freeze
 have ahI:∀w',K w'->gM (((⟨x.kind,x.eD,x.name,B,E,x.n,x.body,x.eu,x.at_⟩:bE)::O).set (0:Int).toNat (⟨x.kind,x.eD,x.name,B,E,x.n-1,x.body,x.eu,x.at_⟩:bE)) (Bk.cons {x with n:=x.n-1} a .nil .nil).flat w':=λw' hw=>by
  rw[PW];obtain⟨_,_,h4,h5,h6⟩:=zX w' hw;cases h4
  exact gM.cons ⟨B,E,rfl,h5,h6⟩ (G.1 w' hw)
 refine bF MO u (H':=λ_=>eO K (λw=>Φ w/\dA (λ_=>True) w (ia I) (([(⟨x.kind,x.eD,x.name,B,E,x.n,x.body,x.eu,x.at_⟩:bE)]++O).set (0:Int).toNat (⟨x.kind,x.eD,x.name,B,E,x.n-1,x.body,x.eu,x.at_⟩:bE))) p room { {t with cD:=gA t.cD}with cD:=jr (Bk.cons {x with n:=x.n-1} a .nil .nil) true ({t with cD:=gA t.cD}).cD}) (Φ:=λ_ _=>True) (λV M W=>?_) ?_
 .exact(C116 K _ p room ({t with cD:=gA t.cD}) V I _ (Bk.cons {x with n:=x.n-1} a .nil .nil) true _ M (λw' hc=>J w' (W w' hc).aG) (λ_ h=>⟨ahI,λ_=>h.2⟩) (by show(gA t.cD).length<=_;omega)).mono λ_ _ r=>r.mono λ_ _ h=>⟨trivial,h.2⟩
 rintro _ _ _ u;refine bF MO u (H':=λ_=>eO K (λw=>Φ w/\dA (λ_=>True) w (ia I) (([(⟨x.kind,x.eD,x.name,B,E,x.n,x.body,x.eu,x.at_⟩:bE)]++O).set (0:Int).toNat (⟨x.kind,x.eD,x.name,B,E,x.n-1,x.body,x.eu,x.at_⟩:bE))) p room { {t with cD:=(.cons {x with n:=x.n-1} a .nil .nil,true)::gA t.cD}with cD:=jr a false ({t with cD:=(.cons {x with n:=x.n-1} a .nil .nil,true)::gA t.cD}).cD}) (Φ:=λ_ _=>True) (λV M W=>?_) ?_
 .exact(C116 K _ p room ({t with cD:=(.cons {x with n:=x.n-1} a .nil .nil,true)::gA t.cD}) V av O a false _ M (λw' hc=>J w' (W w' hc).aG) (λw h=>hΦ w h.1) (by show(gA t.cD).length+1<=_;omega)).mono λ_ _ r=>r.mono λ_ _ h=>⟨trivial,h.2⟩
 rintro _ _ _ u;exact⟨rfl,(eO.mono u.p1.drop λ_ h=>h.1).mut⟩
def C117(K:hM)(p:Nat)(room:Int)(t tR:jY)(n:Nat)(cs ls:List ByteArray)(F:Nat->Prop)(w:World)(hF:(rF K p room t).p w F)(V:∀w',gu F w w'->K w')(kC:yh cs ls t)(hg:tf n t=some tR) :
   CR 117 [.pointer (some ⟨p,0,none⟩)] w (λv w'=>v=.tuple #[]/\mP F (rF K p room tR) w w'):=by
 have u:=St.begin hF;refine ad2 _ _ _ ?_;unfold S117;refine⟨λmm w'=>∃B:jY,tf mm B=some tR/\yh cs ls B/\St w F [rF K p room B] w',⟨n,t,hg,kC,u⟩,?_⟩;rintro mm _ ⟨B,Y,W,u⟩ _;obtain⟨k,rfl⟩:=HD Y;have oG:=Dz W.p;have EW:=W.cl;have Y8:=W.nb;have Gq:=W.rl;obtain⟨bp,nv,rg,pl,es,hk,u⟩:=eO.open u;refine dQ Y6 (C137 K p B bp nv rg pl es _ _ u.hb u.p3.dX u.p4.eG.1 (λ_ e=>V _ (u.aG.then e)) W.p cK) ?_;rintro v _ ⟨he,hv⟩;have u:=u.ext he
 rcases hv with⟨eE,rfl⟩|⟨x,a,b,xv,E,G,I,J,Ce,rfl,zX,hab⟩
 .refine aQ rfl (aQ rfl (aQ rfl (aQ rfl (aM u jw λb2 w3 u=>aJ (x:=(⟨0,⟨#[]⟩,⟨#[]⟩,bX,bX,0,0,0,0⟩:bE)) u eL rfl rfl λw4 u=>bR (iw ?_)))));rw[pf Y (YZ eE)];exact⟨rfl,(eO.shut hk u.drop).mut⟩
 obtain⟨Z,gf,rfl,_,_⟩:=jg (zX _ (V _ u.aG))
 have PX:∀w,K w->dA (λ_=>True) w (ia Z) x.e/\dA (λ_=>True) w (ia gf) x.f:=λw hw=>by
  obtain⟨_,_,h4,h5,h6⟩:=jg (zX w hw);cases h4
  exact⟨h5,h6⟩
 obtain⟨hx,sa,sb,aa,ab,Kc,hb2,TP,r,e,p',Bu,sr,ar⟩:=W.top Ce;have iT:(Bk.cons x a b r).str:=W.p.st _ (by rw[Bu];exact oD ..);have hxe:=hx.e;have u:=u.p4.dM (Ψ:=λw=>DC K w es B.cD/\(rk K E I a.flat w/\rk K G J b.flat w)) (λw h=>⟨h.1,hab w h.1⟩);have u:=eO.shut (Φ:=λw=>rk K E I a.flat w/\rk K G J b.flat w) (t:=B) hk u.p4.p4.p4.p4;refine aQ rfl (aQ rfl (aQ rfl (aQ rfl (aM u jw λb2 w3 u=>aJ (x:=(⟨x.kind,x.eD,x.name,Z,gf,x.n,x.body,x.eu,x.at_⟩:bE)) u eL rfl rfl λw4 u=>bR (ft (aA iV (aB (v:=ia Z) ju u.hb rfl (bF MQ u.p1 (H':=λ_=>eO K (λw=>rk K E I a.flat w/\rk K G J b.flat w) p room {B with fault:=if (eI B x.e).2=true then B.fault else 2}) (Φ:=λv _=>v=.tuple #[hZ (eI B x.e).1,.bool (eI B x.e).2]) (λU O M=>?_) ?_))))))))
 .exact C161 K _ p room B U _ x.e _ O (λw' hc=>V w' (M w' hc).aG) (PX _ (V _ u.aG)).1 cK cK
 rintro _ w5 rfl u;refine aQ rfl (aQ rfl (bR (aY (λc1=>?_) λc1=>?_)))
 .have h1:(eI B x.e).2=false:=by simpa using c1
  rw[h1]at u;rw[pf Y (Y0 Ce h1)];exact⟨rfl,(eO.mono u.p1.drop λ_ _=>trivial).mut⟩
 have h1:(eI B x.e).2=true:=by simpa using c1
 replace u:St w F [eO K (λw=>rk K E I a.flat w/\rk K G J b.flat w) p room B,bY b2 (j0 (⟨x.kind,x.eD,x.name,Z,gf,x.n,x.body,x.eu,x.at_⟩:bE))] w5:=by rw[h1]at u;exact u
 refine aA j8 (aB (v:=ia gf) ju u.p1.hb rfl (bF MQ u (H':=λ_=>eO K (λw=>rk K E I a.flat w/\rk K G J b.flat w) p room {B with fault:=if (eI B x.f).2=true then B.fault else 2}) (Φ:=λv _=>v=.tuple #[hZ (eI B x.f).1,.bool (eI B x.f).2]) (λU O M=>?_) ?_))
 .exact C161 K _ p room B U _ x.f _ O (λw' hc=>V w' (M w' hc).aG) (PX _ (V _ u.aG)).2 cK cK
 rintro _ w6 rfl u;refine aQ rfl (aQ rfl (bR (aY (λc2=>?_) λc2=>?_)))
 .have h2:(eI B x.f).2=false:=by simpa using c2
  rw[h2]at u;rw[pf Y (Y3 Ce h2)];exact⟨rfl,(eO.mono u.p1.drop λ_ _=>trivial).mut⟩
 have h2:(eI B x.f).2=true:=by simpa using c2
 replace u:St w F [eO K (λw=>rk K E I a.flat w/\rk K G J b.flat w) p room B,bY b2 (j0 (⟨x.kind,x.eD,x.name,Z,gf,x.n,x.body,x.eu,x.at_⟩:bE))] w6:=by rw[h2]at u;exact u
 have hgk:=Y4 Ce h1 h2
 have vX:∀(t2:jY) (w':World),qG B x a b (eI B x.e).1=(t2,true)->St w F [eO K (λw=>rk K E I a.flat w/\rk K G J b.flat w) p room t2,bY b2 (j0 (⟨x.kind,x.eD,x.name,Z,gf,x.n,x.body,x.eu,x.at_⟩:bE))] w'->∃m',m'<k+1/\∃B:jY,tf m' B=some tR/\yh cs ls B/\St w F [rF K p room B] w':=λt2 w' h3 h4=>by
  have h5:=hgk.trans h3;obtain⟨h6,h7,_⟩:=DB W;rw[h5]at h6 h7;exact⟨k,Lo k,t2,SA Y h5,h6,eO.mono h4.p1.drop λ_ _=>trivial⟩
 refine aA dN (aB (v:=hZ x.kind) bL u.p1.hb rfl (aH (aC (λk1=>?_) λk1=>?_)))
 .have hpm:=dK.1 (hx.rg (.inl k1));obtain⟨j,hj,B2,_⟩:=lV hpm;have DZ:=(kE.1 B2).1;obtain⟨bp,nv,rg,pl,es,hk,u⟩:=eO.open u;have u:=u.drew;refine aE (aA Ap (aB eg u.hb rfl (aE (aA Ao (aB ji u.hb rfl (aA iE (aB (v:=.string x.eD) gv u.p5.hb rfl (aV Hj u (C159 _ B.names x.eD _ (hk _ (V _ u.aG)) cK) λ_ he u=>?_))))))));refine⟨aF eg (u.hb.cell rfl),?_⟩;refine dR u.p2 cS cK cK (λq51 h51=>js (eI B x.e).1 u.p2 bL h51 cK λ_ u=>have u:=eO.shut (Φ:=λw=>rk K E I a.flat w/\rk K G J b.flat w) (t:=pe B x.eD (eI B x.e).1) hk u.p2.p2;bF MP u (H':=λ_=>eO K (λw=>rk K E I a.flat w/\rk K G J b.flat w) p room {pe B x.eD (eI B x.e).1 with cD:=gA (pe B x.eD (eI B x.e).1).cD}) (Φ:=λ_ _=>True) (λU O M=>?_) ?_)
  .exact(C164 K _ p room (pe B x.eD (eI B x.e).1) U x a b r e p' _ O (λw' hc=>V w' (M w' hc).aG) Bu iT (by show B.cD.length<=_;omega)).mono λ_ _ r=>r.mono λ_ _ h=>⟨trivial,h.2⟩
  rintro _ _ _ u;exact vX _ _ (YY k1) u
 refine aH (aC (λk2=>?_) λk2=>?_)
 .refine bF MP u (H':=λ_=>eO K (λw=>rk K E I a.flat w/\rk K G J b.flat w) p room {B with cD:=gA B.cD}) (Φ:=λ_ _=>True) (λU O M=>?_) ?_
  .exact(C164 K _ p room B U x a b r e p' _ O (λw' hc=>V w' (M w' hc).aG) Bu iT cK).mono λ_ _ r=>r.mono λ_ _ h=>⟨trivial,h.2⟩
  rintro _ w10 _ u;refine⟨λjv w'=>jv=(if (eI B x.e).1=0 then ia G else ia E)/\w'=w10,?_,?_⟩
  .refine aH ?_;refine aC (λc=>⟨(ew c).symm,rfl⟩) (λc=>⟨(ej c).symm,rfl⟩)
  rintro _ _ ⟨rfl,rfl⟩ _
  have hpq:(gA B.cD).length<=100000:=by
   have:=Dz W.p.pop;have:=PU Bu;omega
  have e1:(if (eI B x.e).1=0 then ia G else ia E)=ia (if (eI B x.e).1=0 then G else E):=by split<;>rfl
  rw[e1];refine bF MO u (H':=λ_=>eO K (λw=>rk K E I a.flat w/\rk K G J b.flat w) p room { {B with cD:=gA B.cD}with cD:=jr (if (eI B x.e).1=0 then b else a) false ({B with cD:=gA B.cD}).cD}) (Φ:=λ_ _=>True) (λU O M=>?_) ?_
  .exact(C116 K _ p room ({B with cD:=gA B.cD}) U (if (eI B x.e).1=0 then G else E) (if (eI B x.e).1=0 then J else I) (if (eI B x.e).1=0 then b else a) false _ O (λw' hc=>V w' (M w' hc).aG) (λ_ h=>by split;exact h.2;exact h.1) hpq).mono λ_ _ r=>r.mono λ_ _ h=>⟨trivial,h.2⟩
  rintro _ _ _ u;exact vX _ _ (Jy k2) u
 refine aH (aC (λk3=>?_) λk3=>?_)
 .refine aD eL u.p1.At (bF aqA u (H':=λ_=>eO K (λw=>rk K E I a.flat w/\rk K G J b.flat w) p room {B with cD:=mI x a B.cD}) (Φ:=λ_ _=>True) (λU O M=>?_) ?_)
  .exact(C196 K _ p room B U x ⟨x.kind,x.eD,x.name,Z,gf,x.n,x.body,x.eu,x.at_⟩ E I a b r e p' _ O (λw' hc=>V w' (M w' hc).aG) Bu iT cK zX (λ_ h=>h.1) (hx.n k3)).mono λ_ _ r=>r.mono λ_ _ h=>⟨trivial,h.2⟩
  rintro _ _ _ u;exact vX _ _ (SC k3) u
 refine aH (aC (λk4=>?_) λk4=>?_)
 .refine bF aqB u (H':=λ_=>eO K (λw=>rk K E I a.flat w/\rk K G J b.flat w) p room {B with cD:=ky B.cD}) (Φ:=λ_ _=>True) (λU O M=>?_) ?_
  .exact(C197 K _ p room B U _ O (λw' hc=>V w' (M w' hc).aG) cK).mono λ_ _ r=>r.mono λ_ _ h=>⟨trivial,h.2⟩
  rintro _ _ _ u;exact vX _ _ (SD k4) u
 refine aH (aC (λk5=>?_) λk5=>?_)
 .refine aH (aC (λc=>?_) λc=>?_)
  .obtain⟨bp,nv,rg,pl,es,hk,u⟩:=eO.open u;refine aE (aA wJ (aT u bL (dL rfl) rfl λ_ u=>?_));have u:=eO.shut (Φ:=λw=>rk K E I a.flat w/\rk K G J b.flat w) (t:={B with fault:=1}) hk u;rw[pf Y (hgk.trans (MM k5 c))];exact⟨rfl,(eO.mono u.p1.drop λ_ _=>trivial).mut⟩
  refine bF MP u (H':=λ_=>eO K (λw=>rk K E I a.flat w/\rk K G J b.flat w) p room {B with cD:=gA B.cD}) (Φ:=λ_ _=>True) (λU O M=>?_) ?_
  .exact(C164 K _ p room B U x a b r e p' _ O (λw' hc=>V w' (M w' hc).aG) Bu iT cK).mono λ_ _ r=>r.mono λ_ _ h=>⟨trivial,h.2⟩
  rintro _ _ _ u;exact vX _ _ (MN k5 c) u
 rw[pf Y (hgk.trans (SE k1 k2 k3 k4 k5))];exact⟨rfl,(eO.mono u.p1.drop λ_ _=>trivial).mut⟩
variable (w:World) (K:Value->hM)
def axq:dI:=λi=>match i with
 | 8=>(.of [(0,[]),(1,[]),(2,[]),(3,[]),(4,[]),(5,[]),(6,[]),(7,[]),(8,[]),(9,[]),(10,[]),(11,[]),(12,[]),(13,[]),(14,[7]),(15,[]),(16,[]),(17,[]),(18,[]),(19,[])])
 | _=>.nil
def S160(s0 E a G:Value):Prop:=
 rJ hH (zT 193 a) w λb c=>aL 56 c λd e=>nC E λf=>fA 138 f 0 λg=>lA 88 g e λh=>cF 226 [h,G] e λj k=>xT j 0 λl=>xT j 1 λn=>GG (λJ=>
 eR hH (Op.unary .not n) λo=>cV o (nC s0 λp=>fA 96 p 4 λq=>lA 93 q k λs=>cF 227 [s,G] k λt u=>xT t 0 λv=>xT t 1 λ_=>J v (i 1) u) (J l (i 2) k))
 (λO B x=>∀_:Env,
 nC E λy=>fA 138 y 2 λz=>lA 41 z (drew x) λM=>nC E λU=>fA 138 U 1 λac=>lA 91 ac (drew x) λV=>fA 193 b 1 λae=>lA 9 ae (drew x) λaf=>cF 159 [V,af] (drew x) λW I=>
 kA 41 z M I (iA 41 M W λai=>sA 3 ai O I λY=>eR hH (l2 56 [(0,B),(2,G),(3,O)].toArray) λZ=>sA 56 d Z Y λal=>lA 56 d al λr=>
 K r al))
def axr:dI:=λi=>match i with
 | 6=>(.of [(0,[]),(1,[]),(2,[]),(3,[]),(4,[]),(5,[]),(6,[]),(7,[]),(8,[]),(9,[]),(11,[]),(10,[3]),(12,[]),(13,[])])
 | _=>.nil
theorem ad3(G B u E:Value)(h:S160 w K G B u E):CR 160 [G,B,u,E] w K:=
 qO 49 axr 256 [.cell 8 56] Tryz.func160 h
def S163(U B a E:Value):Prop:=
 rJ hH (zT 193 a) w λb c=>aL 56 c λd e=>nC U λf=>fA 96 f 4 λg=>lA 93 g e λh=>cF 227 [h,E] e λj k=>xT j 0 λl=>xT j 1 λ_=>fA 193 b 3 λn=>
 lA 82 n k λo=>cF 161 [B,o] k λp q=>xT p 0 λs=>xT p 1 λ_=>fA 193 b 4 λt=>lA 82 t q λu=>cF 161 [B,u] q λv x=>xT v 0 λy=>xT v 1 λ_=>nC B λz=>
 fA 138 z 2 λV=>lA 41 V (drew x) λM=>nC B λac=>fA 138 ac 1 λad=>lA 91 ad (drew x) λae=>fA 193 b 1 λaf=>lA 9 af (drew x) λag=>cF 159 [ae,ag] (drew x) λY O=>
 kA 41 V M O (iA 41 M Y λaj=>sA 3 aj l O λG=>bA .neq 3 l s λal=>cV al (eR hH (l2 56 [(0,(i 9)),(2,E),(3,l)].toArray) λam=>sA 56 d am G λW=>
 lA 56 d W λr=>K r W) (nC U λao=>fA 96 ao 4 λap=>lA 93 ap G λaq=>cF 156 [aq,E,y] G λ_ ar=>eR hH (l2 56 [(0,(i 8)),(2,E),(3,l),(4,y)].toArray) λI=>
 sA 56 d I ar λJ=>lA 56 d J λZ=>K Z J))
def axs:dI:=λi=>match i with
 | 4=>(.of [(0,[]),(1,[]),(2,[]),(3,[]),(4,[]),(5,[]),(6,[]),(7,[]),(8,[]),(9,[]),(11,[]),(10,[3]),(12,[]),(13,[])])
 | _=>.nil
theorem ad4(G B u E:Value)(h:S163 w K G B u E):CR 163 [G,B,u,E] w K:=
 qO 68 axs 256 [.cell 8 56] Tryz.func163 h
def S91(I O:Value):Prop:=
 aL 56 w λa b=>nC I λc=>fA 96 c 6 λd=>lA 94 d b λe=>iA 94 e O λf=>lA 135 f b λg=>nC g λh=>fA 138 h 4 λj=>lA 3 j b λk=>bB .neq 3 k (i 0) λl=>
 cV l (nC g λn=>fA 138 n 4 λo=>lA 3 o b λp=>cF 158 [I,O,p] b λq s=>sA 56 a q s λt=>lA 56 a t λr=>K r t) (cF 137 [g] b λu v=>xT u 0 λx=>xT u 1 λ_=>
 xT u 2 λ_=>xT u 3 λ_=>aL 193 v λy z=>sA 193 y x z λV=>nC I λab=>fA 96 ab 1 λac=>lA 91 ac (drew V) λad=>fA 193 y 2 λae=>lA 9 ae (drew V) λaf=>
 nC I λag=>fA 96 ag 2 λY=>lA 91 Y (drew V) λai=>fA 193 y 2 λaj=>lA 9 aj (drew V) λak=>cF 159 [ad,af] (drew V) λal W=>kA 91 Y ai W (kA 9 aj ak W (
 cF 159 [ai,ak] W λU ao=>nC I λap=>fA 96 ap 0 λaq=>lA 27 aq ao λar=>cF 52 [ar,al] ao λG au=>aL 56 au λE B=>yA (λJ=>fA 193 y 0 λaw=>lA 3 aw B λM=>
 bB .eql 3 M (i 2) λay=>cV ay (lA 193 y B λaz=>cF 160 [I,g,az,al] B λa0 a1=>sA 56 E a0 a1 λa2=>J a2) (bB .eql 3 M (i 3) λa3=>cV a3 (fA 193 y 3 λa4=>
 lA 82 a4 B λa5=>cF 161 [g,a5] B λa6 a7=>xT a6 0 λa8=>xT a6 1 λ_=>nC g λa9=>fA 138 a9 0 λba=>lA 88 ba a7 λbb=>eR hH (l2 231 [(0,(i 3)),(1,G),(2,al),(3,a8)].toArray) λbc=>
 cF 162 [bb,bc] a7 λ_ bd=>eR hH (l2 56 [(0,(i 3)),(2,al),(3,a8)].toArray) λbe=>sA 56 E be bd λbf=>J bf) (bB .eql 3 M (i 5) λbg=>cV bg (nC g λbh=>
 fA 138 bh 0 λbi=>lA 88 bi B λbj=>eR hH (l2 231 [(0,(i 5)),(1,G)].toArray) λbk=>cF 162 [bj,bk] B λ_ bl=>eR hH (l2 56 [(0,(i 4)),(2,G)].toArray) λbm=>
 sA 56 E bm bl λbn=>J bn) (bB .eql 3 M (i 6) λbo=>cV bo (nC g λbp=>fA 138 bp 0 λbq=>lA 88 bq B λbr=>eR hH (l2 231 [(0,(i 6)),(1,G)].toArray) λbs=>
 cF 162 [br,bs] B λ_ bt=>eR hH (l2 56 [(0,(i 5)),(2,G)].toArray) λbu=>sA 56 E bu bt λbv=>J bv) (bB .eql 3 M (i 7) λbw=>cV bw (nC g λbx=>
 fA 138 bx 0 λbz=>lA 88 bz B λb0=>eR hH (l2 231 [(0,(i 7))].toArray) λb1=>cF 162 [b0,b1] B λ_ b2=>eR hH (l2 56 [(0,(i 6))].toArray) λb3=>
 sA 56 E b3 b2 λb4=>J b4) (bB .eql 3 M (i 8) λb5=>cV b5 (eR hH (l2 56 [(0,(i 7))].toArray) λb6=>sA 56 E b6 B λb7=>J b7) (bB .eql 3 M (i 4) λb8=>
 cV b8 (lA 193 y B λb9=>cF 163 [I,g,b9,al] B λca cb=>sA 56 E ca cb λcc=>J cc) (bB .eql 3 M (i 9) λcd=>cV cd (nC I λce=>fA 96 ce 5 λcf=>lA 41 cf B λcg=>
 iA 41 cg U λch=>sA 3 ch O B λci=>eR hH (l2 56 [(0,(i 10)),(2,U)].toArray) λcj=>sA 56 E cj ci λck=>J ck) (nC I λcl=>fA 96 cl 5 λcm=>
 lA 41 cm B λcn=>iA 41 cn U λco=>lA 3 co B λcp=>bA .neq 3 cp O λcq=>cV cq (cF 158 [I,O,(i 3)] B λcr cs=>sA 56 a cr cs λct=>lA 56 a ct λIy=>K Iy ct) (
 nC I λcu=>fA 96 cu 5 λcv=>lA 41 cv B λcw=>iA 41 cw U λcx=>sA 3 cx (i (-1)) B λcy=>eR hH (l2 56 [(0,(i 11)),(2,U)].toArray) λcz=>sA 56 E cz cy λc0=>
 J c0)))))))))) (λc1=>∀_:Env,
 fA 56 E 1 λc2=>sA 3 c2 O c1 λc3=>cF 164 [g] c3 λ_ c4=>cF 117 [g] c4 λ_ c5=>lA 56 E c5 λc6=>sA 56 a c6 c5 λZ=>lA 56 a Z λOv=>K Ov Z))))
def P91:dI:=λi=>match i with
 | 5=>(.of [(0,[]),(1,[]),(2,[]),(3,[]),(4,[]),(5,[]),(7,[]),(8,[]),(9,[]),(10,[]),(11,[]),(12,[]),(6,[10,12]),(13,[]),(14,[]),(15,[])])
 | _=>.nil
theorem ajo(u B:Value)(h:S91 w K u B):CR 91 [u,B] w K:=
 qO 171 P91 16 [.cell 4 56] Tryz.func91 h
def P90:dI:=λi=>match i with
 | 1=>(.op 0 [] (.op 1 [] (.op 2 [] (.op 3 [] (.op 4 [] (.op 5 [] (.op 6 [] (.op 7 [] (.op 8 [] (.op 9 [] (.op 10 [] (.op 11 [] (.op 12 [] (.alt 13 [] (.of [(14,[]),(15,[]),(16,[]),(17,[3,5,7,10,12]),(18,[]),(19,[])]) (.alt 17 [3,5,7,10,12] (.of [(13,[]),(14,[]),(15,[]),(16,[]),(18,[]),(19,[])]) .stop)))))))))))))))
 | 4=>.run 0 9
 | 8=>.run 0 7
 | _=>.nil
def P56:dI:=λi=>match i with
 | 9=>(.of [(0,[]),(1,[]),(2,[]),(3,[]),(4,[]),(5,[]),(6,[2]),(7,[]),(8,[]),(9,[])])
 | _=>.nil
def P24:dI:=λi=>match i with
 | 1=>.run 0 30
 | _=>.nil
def P68:dI:=λi=>match i with
 | 2=>(.of [(0,[]),(1,[]),(2,[]),(3,[]),(4,[]),(5,[]),(6,[]),(7,[]),(8,[]),(9,[]),(10,[]),(11,[]),(12,[]),(13,[3,7,11]),(14,[])])
 | _=>.nil
def S70(E:Value):Prop:=
 nC E λa=>fA 96 a 0 λb=>lA 27 b w λc=>cF 54 [c] w λd e=>nC E λf=>fA 96 f 0 λg=>fA 27 g 5 λh=>lA 25 h e λj=>lN 25 j λk=>px (λI B l n=>∀_:Env,
 bA .lss 3 l k λo=>cV o (fe (λK2=>iA 25 j l λp=>lA 85 p n λq=>aL 85 n λV r=>sA 85 V q r λs=>fA 85 V 0 λt=>lA 82 t (drew s) λu=>nC E λv=>fA 96 v 1 λx=>
 lA 91 x (drew s) λy=>eR hH (n4 91 y none (some d) none) λz=>cF 72 [E] (drew s) λaa G=>kA 82 t u G (kA 91 x y G (eR hH (n4 41 aa none (some d) none) λac=>
 cF 143 [u,z,ac] G λO U=>xT O 0 λaf=>xT O 1 λZ=>bB .eql 31 Z (i 0) λW=>cV W (bB .neq 3 af (i 0) λai=>bS 117 1 [(0,ai)] U λaj ak=>aP 117 B aj ak λal am=>
 K2 al am) (bS 117 1 [(0,ff)] U λan ao=>aP 117 B an ao λY aq=>K2 Y aq)))) (λJ ar=>∀_:Env,
 bB .add 3 l (i 1) λM=>I J M ar)) (K B n)) (λI=>I (.slice none 0 0) (i 0) e)
def P70:dI:=λi=>match i with
 | 6=>(.of [(0,[]),(1,[]),(2,[]),(3,[]),(4,[]),(5,[]),(6,[]),(7,[]),(8,[]),(10,[]),(9,[1,5]),(11,[]),(12,[]),(13,[]),(14,[]),(15,[]),(16,[]),(17,[])])
 | _=>.nil
theorem ajr(u:Value)(h:S70 w K u):CR 70 [u] w K:=
 qO 51 P70 4 [.tmp 2] Tryz.func70 h
def S12(p0 U:Value):Prop:=
 rJ hH (zT 27 p0) w λp2 a=>lA 27 p2 a λb=>cF 48 [b] a λc d=>xT c 0 λe=>xT c 1 λ_=>bB .neq 31 e (i 0) λf=>cV f (K (.tuple #[(.pointer none),e]) d) (
 cF 49 [U] d λg h=>xT g 0 λ_=>xT g 1 λj=>bB .neq 31 j (i 0) λk=>cV k (K (.tuple #[(.pointer none),j]) h) (lA 27 p2 (drew h) λl=>lA 27 p2 (drew h) λn=>lA 27 p2 (drew h) λo=>
 cF 50 [n] (drew h) λp q=>kA 27 p2 l q (kA 27 p2 o q (cF 51 [o] q λr s=>kA 27 p2 l s (eR hH (l2 96 [(0,l),(1,p),(2,r),(3,U)].toArray) λt=>rJ hH (zT 96 t) s λu v=>
 nC u λx=>fA 96 x 1 λy=>lA 91 y v λz=>lN 91 z λaa=>px (λJ B I G=>∀_:Env,
 bA .lss 3 I aa λad=>cV ad (lA 27 p2 G λae=>cF 52 [ae,I] G λaf ag=>bS 41 1 [(0,af)] ag λW ai=>aP 41 B W ai λaj ak=>bB .add 3 I (i 1) λal=>J aj al ak) (
 lA 27 p2 (drew G) λam=>lA 27 p2 (drew G) λV=>cF 54 [am] (drew G) λao M=>kA 27 p2 V M (cF 55 [V] M λaq ar=>cF 53 [B,ao,aq] ar λE au=>xT E 0 λav=>
 xT E 1 λ_=>nC u λaw=>fA 96 aw 4 λax=>sA 93 ax av au λO=>fA 27 p2 3 λY=>lA 24 Y O λZ=>cF 56 [u,Z] O λ_ a1=>K (.tuple #[u,(i 0)]) a1))) λJ=>J (.slice none 0 0) (i 0) v)))))
def P12:dI:=λi=>match i with
 | 7=>(.of [(0,[]),(1,[]),(3,[]),(5,[]),(2,[0,3]),(4,[0]),(6,[]),(7,[]),(8,[])])
 | 14=>(.of [(0,[]),(1,[]),(2,[]),(4,[]),(3,[4]),(5,[]),(6,[]),(7,[]),(8,[]),(9,[]),(10,[]),(11,[]),(12,[])])
 | _=>.nil
theorem ajs(p0 u:Value)(h:S12 w K p0 u):CR 12 [p0,u] w K:=
 qO 69 P12 48 [.tmp 4,.tmp 5] Tryz.func12 h
def S87(E:Value):Prop:=
 lN 41 E λa=>px (λu B b c=>∀_:Env,
 bA .lss 3 b a λd=>cV d (iA 41 E b λe=>lA 3 e c λf=>bB .mul 3 B (i 10000) λg=>bA .add 3 g f λh=>bB .add 3 b (i 1) λj=>u h j c) (K B c)) (λu=>u (i 0) (i 0) w)
theorem ajt(u:Value)(h:S87 w K u):CR 87 [u] w K:=
 qO 18 (λ_=>.nil) 4 [.tmp 2] Tryz.func87 h
theorem aqJ:PL 138:=dJ Tryz.func138
theorem aqK:PL 67:=dJ Tryz.func67
theorem agQ:PL 158:=dJ Tryz.func158
theorem aqL:PL 160:=dJ Tryz.func160
theorem aqM:PL 163:=dJ Tryz.func163
theorem axt:PL 91:=dJ Tryz.func91
theorem axu:PL 90:=dJ Tryz.func90
theorem aqN:PL 56:=dJ Tryz.func56
theorem aqO:PL 24:=dJ Tryz.func24
theorem axv:PL 88:=dJ Tryz.func88
theorem aju:PL 68:=dJ Tryz.func68
theorem aqP:PL 140:=dJ Tryz.func140
theorem ajv:PL 72:=dJ Tryz.func72
theorem axw:PL 70:=dJ Tryz.func70
theorem aqQ:PL 12:=dJ Tryz.func12
theorem axx:PL 87:=dJ Tryz.func87
theorem aqR:PL 142:=dJ Tryz.func142
theorem aqS:PL 217:=dJ Tryz.func217
end Go.Proofs.YtpdlpabnlkofmaaGreatDoor
namespace Go.Proofs.YtpdlpabnlkofmaaGreatDoor
open Go.Fw
def Cf(u:Int)(B:Int):pr hH (l2 50 [(0,hZ u),(1,hZ B)].toArray)=some (.agg [hZ u,hZ B,hZ 0,.slice none 0 0].toArray):=by kernel_rfl
def CJ(B:Int)(E:Int)(u:Int):pr hH (l2 50 [(0,hZ B),(1,hZ E),(2,hZ u)].toArray)=some (.agg [hZ B,hZ E,hZ u,.slice none 0 0].toArray):=by kernel_rfl
def JC:pr hH (l2 56 [].toArray)=some (.agg [hZ 0,hZ 0,hZ 0,hZ 0,hZ 0].toArray):=by kernel_rfl
def JD(u:Int):pr hH (l2 56 [(0,hZ u)].toArray)=some (.agg [hZ u,hZ 0,hZ 0,hZ 0,hZ 0].toArray):=by kernel_rfl
def HE(u:Int)(B:Int):pr hH (l2 56 [(0,hZ u),(1,hZ B)].toArray)=some (.agg [hZ u,hZ B,hZ 0,hZ 0,hZ 0].toArray):=by kernel_rfl
def tI(B:Int)(E:Int)(u:Int):pr hH (l2 56 [(0,hZ B),(1,hZ E),(2,hZ u)].toArray)=some (.agg [hZ B,hZ E,hZ u,hZ 0,hZ 0].toArray):=by kernel_rfl
def yU(E:Int)(G:Int)(u:Int)(B:Int):pr hH (l2 56 [(0,hZ E),(1,hZ G),(2,hZ u),(3,hZ B)].toArray)=some (.agg [hZ E,hZ G,hZ u,hZ B,hZ 0].toArray):=by kernel_rfl
def oC(B:Int)(u:Int):pr hH (l2 56 [(0,hZ B),(2,hZ u)].toArray)=some (.agg [hZ B,hZ 0,hZ u,hZ 0,hZ 0].toArray):=by kernel_rfl
def mJ(E:Int)(u:Int)(B:Int):pr hH (l2 56 [(0,hZ E),(2,hZ u),(3,hZ B)].toArray)=some (.agg [hZ E,hZ 0,hZ u,hZ B,hZ 0].toArray):=by kernel_rfl
def yV(G:Int)(u:Int)(B:Int)(E:Int):pr hH (l2 56 [(0,hZ G),(2,hZ u),(3,hZ B),(4,hZ E)].toArray)=some (.agg [hZ G,hZ 0,hZ u,hZ B,hZ E].toArray):=by kernel_rfl
def HF(B:Int)(u:Int):pr hH (l2 56 [(0,hZ B),(3,hZ u)].toArray)=some (.agg [hZ B,hZ 0,hZ 0,hZ u,hZ 0].toArray):=by kernel_rfl
def Gr(MS:Option Addr)(G U:Nat)(MT:Option Addr)(Zc Zd:Nat)(MU:Option Addr)(Y W:Nat)(Z:Option Addr)(V u:Nat)(O:Option Addr)(MZ M4:Nat)(J:Option Addr)(M I:Nat)(a1:Option Addr)(E c1:Nat)(B:Option Addr)(n2 c2:Nat)(a3:Int):pr hH (l2 96 [(0,.agg [.slice MS G U,.slice MT Zc Zd,.slice MU Y W,.slice Z V u,.slice O MZ M4,.slice J M I].toArray),(1,.slice a1 E c1),(2,.slice B n2 c2),(3,hZ a3)].toArray)=some (.agg [.slice MS G U,.slice MT Zc Zd,.slice MU Y W,.slice Z V u,.slice O MZ M4,.slice J M I,.slice a1 E c1,.slice B n2 c2,hZ a3,.pointer none,.slice none 0 0,.slice none 0 0,hZ 0,hZ 0,hZ 0].toArray):=by kernel_rfl
def JE(B:Int)(E:Int)(u:Int):pr hH (l2 114 [(0,hZ B),(1,hZ E),(2,hZ u)].toArray)=some (.agg [hZ B,hZ E,hZ u,.bool false,.bool false].toArray):=by kernel_rfl
def JF(G:Option Addr)(M:Option Addr)(E J:Nat)(B:Option Addr)(I u:Nat):pr hH (l2 138 [(0,.pointer G),(1,.slice M E J),(2,.slice B I u)].toArray)=some (.agg [.pointer G,.slice M E J,.slice B I u,.slice none 0 0,hZ 0].toArray):=by kernel_rfl
def vy(u:Int)(B:Int):pr hH (l2 231 [(0,hZ u),(1,hZ B)].toArray)=some (.agg [hZ u,hZ B,hZ 0,hZ 0].toArray):=by kernel_rfl
def xz(E:Int)(G:Int)(u:Int)(B:Int):pr hH (l2 231 [(0,hZ E),(1,hZ G),(2,hZ u),(3,hZ B)].toArray)=some (.agg [hZ E,hZ G,hZ u,hZ B].toArray):=by kernel_rfl
structure gR where
 p:cE
 room:Int
 mem:Mem
 eS:List Int
 l:List jY
 bZ:Int
 fault:Int
 ja:Int
structure DA where
 pv:bP
 cv:SV
 kv:SV
 q:Nat
 ov:Value
 fv:Value
 ow:Value
 ll:Value
 ps:List Ptr
@[reducible] def qS(a:DA)(s:gR):List Value:=[ia a.pv.lines,ia a.pv.iO,ia a.pv.eJ,ia a.pv.threads,ia a.pv.recover,ia a.pv.dS,ia a.cv,ia a.kv,.int .i64 s.room,.pointer (some ⟨a.q,0,none⟩),a.ow,a.ll,.int .i64 s.bZ,.int .i64 s.fault,.int .i64 s.ja]
def ThK(K:hM)(E:cG)(t:cN):Prop:=∃(B u:SV) (rows:List bE),E=⟨t.name,B,u,t.at_⟩/\(∀w,K w->dA (λ_=>True) w (ia B) t.dP)/\∀w,rk K u rows t.body w
def C5(K:hM)(u:List cG)(qR:List cN):Prop:=u.length=qR.length/\∀(j:Nat) (B:cG) (t:cN),u[j]?=some B->qR[j]?=some t->ThK K B t
structure DUK(K:hM)(a:DA)(s:gR):Prop where
 pr:∀w,K w->mG w a.pv s.p
 cs:∀w,K w->dA (λ_=>True) w (ia a.cv) (cT s.p)
 ks:∀w,K w->dA (λ_=>True) w (ia a.kv) (cM s.p)
 mem:∀w,K w->A7 a.ov a.fv s.mem w
 rc:∃vz,(∀w,K w->dA (λ_=>True) w (ia a.pv.recover) vz)/\C5 K vz s.p.recover
abbrev yx(K:hM)(room:Int)(s:Ptr)(t:jY):HP:=rF K s.b room t
def gn(K:hM)(p:Nat)(m:gR):HP:=pH λa:DA=>fact (DUK K a m) (sep (bY p (qS a m)) (sep (iK a.q a.ov a.fv m.mem) (sep (bH a.ow m.eS) (sep (bH a.ll a.ps) (g8 (yx K m.room) a.ps m.l)))))
def mZ(K:hM)(p:Nat)(m:gR)(i:Nat)(tp:Ptr):HP:=pH λa:DA=>fact (DUK K a m/\a.ps[i]?=some tp/\a.ps.length=m.l.length/\i<m.l.length) (sep (bY p (qS a m)) (sep (iK a.q a.ov a.fv m.mem) (sep (bH a.ow m.eS) (sep (bH a.ll a.ps) (nH (yx K m.room) a.ps m.l i)))))
section
variable {w w' w0:World}{A:Nat->Prop}{R:List HP}{p:Nat}{K:hM}{m:gR}{a:DA}{i:Nat}{tp:Ptr}{t:jY}
theorem gn.open(u:St w0 A (gn K p m::R) w):∃a,DUK K a m/\St w0 A (bY p (qS a m)::iK a.q a.ov a.fv m.mem::bH a.ow m.eS::bH a.ll a.ps::g8 (yx K m.room) a.ps m.l::R) w:=by
 obtain⟨a,u⟩:=u.eh;obtain⟨B,u⟩:=u.mw;exact⟨a,B,sL u⟩
theorem gn.shut(u:DUK K a m)(B:St w0 A (bY p (qS a m)::iK a.q a.ov a.fv m.mem::bH a.ow m.eS::bH a.ll a.ps::g8 (yx K m.room) a.ps m.l::R) w):St w0 A (gn K p m::R) w:=
 St.ek a (St.ou u (sM B))
theorem mZ.open(u:St w0 A (mZ K p m i tp::R) w):∃a,(DUK K a m/\a.ps[i]?=some tp/\a.ps.length=m.l.length/\i<m.l.length)/\St w0 A (bY p (qS a m)::iK a.q a.ov a.fv m.mem::bH a.ow m.eS::bH a.ll a.ps::nH (yx K m.room) a.ps m.l i::R) w:=by
 obtain⟨a,u⟩:=u.eh;obtain⟨B,u⟩:=u.mw;exact⟨a,B,sL u⟩
theorem mZ.shut(u:DUK K a m/\a.ps[i]?=some tp/\a.ps.length=m.l.length/\i<m.l.length)(B:St w0 A (bY p (qS a m)::iK a.q a.ov a.fv m.mem::bH a.ow m.eS::bH a.ll a.ps::nH (yx K m.room) a.ps m.l i::R) w):St w0 A (mZ K p m i tp::R) w:=
 St.ek a (St.ou u (sM B))
structure aqT(K:hM)(w:World)(p:Nat)(m:gR)(a:DA):Prop where
 uk:DUK K a m
 b:mR w p (qS a m)
 mem:yw w a.q m.mem
 ow:dA (λ_=>True) w a.ow m.eS
 ll:dA (λ_=>True) w a.ll a.ps
 th:∀(i:Nat) (s:Ptr) (t:jY),a.ps[i]?=some s->m.l[i]?=some t->Has (rF K s.b m.room t) w
 len:a.ps.length=m.l.length
theorem gn.rd(h:Has (gn K p m) w)(E:K w):∃a,aqT K w p m a:=by
 obtain⟨F,u⟩:=h.st
 obtain⟨a,B,u⟩:=gn.open u
 exact⟨a,B,u.hb,Ju u.p1 (B.mem _ E),u.p2.dX,u.p3.dX,λi s t h1 h2=>u.p4.ahL h1 h2 (Φ:=λw=>Has (rF K s.b m.room t) w) λh=>⟨_,h⟩,u.p4.iX⟩
theorem Zi{ps:List Ptr}(B:St w0 A (g8 (yx K m.room) ps m.l::R) w)(u:ps[i]?=some tp)(ht:m.l[i]?=some t):St w0 A (rF K tp.b m.room t::nH (yx K m.room) ps m.l i::R) w:=B.focus u ht
theorem xA(B:St w0 A (rF K tp.b m.room t::mZ K p m i tp::R) w):St w0 A (gn K p {m with l:=m.l.set i t}::R) w:=by
 obtain⟨a,⟨u,G,E,hi⟩,B⟩:=mZ.open B.p1
 have h1:St w0 A (yx K m.room tp t::nH (yx K m.room) a.ps m.l i::_) w:=B.p4.p5
 have h2:=h1.Dl hi E G
 have h3:=h2.p4.p4.p4.p4
 exact gn.shut (m:={m with l:=m.l.set i t}) ⟨u.pr,u.cs,u.ks,u.mem,u.rc⟩ h3
end
def sO(m:gR)(t:jY):Bool:=match pb t.cD with
 | none=>false
 | some (x,_,_)=>if t.fault≠0\/x.kind=2 then true else if x.kind=3\/x.kind=5\/x.kind=6\/x.kind=7 then !decide (m.room<=t.buf.length)
  else if x.kind=9/\m.eS.getD (cU (cM m.p) x.name).toNat 0≠-1 then false else decide (t.buf.length=0)
def rG(m:gR)(i:Nat)(t:jY):List aS:=(if sO m t=true then [⟨1,i,0,[]⟩]else [])++(pA t.buf).map λk=>⟨2,i,k,[]⟩
def ig(m:gR)(k:Nat):List aS:=(uT k).flatMap λi=>match m.l[i]? with|some t=>rG m i t|none=>[]
def gS(m:gR):List aS:=if m.fault≠0 then []else ig m m.l.length
theorem uc{m:gR}{k:Nat}{t:jY}(h:m.l[k]?=some t):ig m (k+1)=ig m k++rG m k t:=by
 unfold ig;rw[Ie,LB];simp[h]
def Zj(t:jY):Prop:=t.fault=0->∀x a b,pb t.cD=some (x,a,b)->(2<=x.kind/\x.kind<=10)/\(eI t x.e).2=true/\(eI t x.f).2=true
structure oJ(m:gR):Prop where
 mem:wq m.mem
 th:∀t∈m.l,yh (cT m.p) (cM m.p) t
 tl:m.l.length<=1000
 ow:m.eS.length=(cM m.p).length
 rm:1<=m.room/\m.room<=16
 st:∀t∈m.l,Zj t
 pz:PZ m.p
def zO(l:List bI):(pA l).length<=l.length:=by grind[pA]
def M6(m:gR)(i:Nat)(t:jY):(rG m i t).length<=1+t.buf.length:=by
 have:=zO t.buf
 unfold rG;grind
theorem rH{m:gR}(h:oJ m):∀k,(ig m k).length<=k*1001
 | 0=>by simp[ig]
 | k+1=>by
  have u:=rH h k
  cases ht:m.l[k]? with
  | none=>
   have e:ig m (k+1)=ig m k:=by unfold ig;rw[Ie,LB];simp[ht]
   grind
  | some t=>
   rw[uc ht,lY]
   have:=M6 m k t
   have:=(h.th t (kO ht)).bl
   omega
def Fz{m:gR}(h:oJ m):(gS m).length<=1001000:=by
 unfold gS;split
 .simp
 exact wc (rH h _) (Nat.mul_le_mul_right 1001 h.tl)
def ij(m:gR)(t:jY)(c:Int):Int:=if (lx t.buf c).isSome=true then(lx t.buf c).getD 0 else jF m.mem c
def dO(m:gR)(x:bQ):Int:=cU (cT m.p) x.name
def fD(m:gR)(x:bQ):Int:=cU (cM m.p) x.name
def fx(m:gR)(x:bQ):Int:=py m.p (dO m x)
def pW(m:gR)(t:jY)(y:bI):jY:={t with buf:=sG m.room t.buf y}
def xB(m:gR)(t:jY)(x:bQ):cH:=⟨if (lx t.buf (dO m x)).isSome=true then 2 else 1,0,dO m x,ij m t (dO m x),0⟩
def rI(m:gR)(t:jY)(x:bQ):gR:=if jF m.mem (dO m x)=(eI t x.e).1 then {m with mem:=fk m.mem (dO m x) (eI t x.f).1}else m
def tJ(m:gR)(t:jY)(x:bQ):cH:=if jF m.mem (dO m x)=(eI t x.e).1 then⟨8,0,dO m x,jF m.mem (dO m x),(eI t x.f).1⟩else⟨9,0,dO m x,jF m.mem (dO m x),0⟩
def pB(m:gR)(x:bQ)(i:Int):gR:={m with eS:=m.eS.set (fD m x).toNat i}
def ea(m:gR)(t:jY)(i:Int)(x:bQ):gR×jY×cH:=
 if x.kind=2 then(m,pe t x.eD (ij m t (dO m x)),xB m t x)
 else if x.kind=3 then(m,pW m t ⟨3,fx m x,dO m x,(eI t x.e).1⟩,⟨3,0,dO m x,(eI t x.e).1,0⟩)
 else if x.kind=5 then(m,pW m t ⟨5,fx m x,0,0⟩,⟨4,0,fx m x,0,0⟩)
 else if x.kind=6 then(m,pW m t ⟨6,fx m x,0,0⟩,⟨5,0,fx m x,0,0⟩)
 else if x.kind=7 then(m,pW m t ⟨7,0,0,0⟩,⟨6,0,0,0,0⟩)
 else if x.kind=8 then(m,t,⟨7,0,0,0,0⟩)
 else if x.kind=4 then(rI m t x,pe t x.eD (jF m.mem (dO m x)),tJ m t x)
 else if x.kind=9 then(pB m x i,t,⟨10,0,fD m x,0,0⟩)
 else(pB m x (-1),t,⟨11,0,fD m x,0,0⟩)
def ud(m:gR)(t:jY)(i:Int)(x:bQ):jY:=goD { (ea m t i x).2.1 with cD:=gA (ea m t i x).2.1.cD}
def iv(m:gR)(i:Int):gR×cH:=match m.l[i.toNat]? with
 | none=>(m,⟨0,0,0,0,0⟩)
 | some t=>if t.fault≠0 then({m with fault:=t.fault,ja:=i},⟨16,i,t.fault,0,0⟩)else match pb t.cD with
  | none=>(m,⟨0,0,0,0,0⟩)
  | some (x,_,_)=>if x.kind=10/\m.eS.getD (fD m x).toNat 0≠i then({m with fault:=3,ja:=i},⟨16,i,3,0,0⟩)
   else({ (ea m t i x).1 with l:=m.l.set i.toNat (ud m t i x)},{ (ea m t i x).2.2 with t:=i})
def tg(m:gR)(t:jY)(q:aS):gR:={m with mem:=jT m.mem (dH t.buf q.i),l:=m.l.set q.t.toNat {t with buf:=jS t.buf q.i}}
def HG(l:List bQ):Bk:=(td l).getD .nil
def wj(t:cN):jY:=⟨t.dP,qW t.dP.length 0,jr (HG t.body) false [],0,[]⟩
def Up(t:cN):jY:=goD (wj t)
def qT(m:gR)(l:List cN):gR:={m with eS:=qW (cM m.p).length (-1),l:=l.map Up}
def iQ(m:gR)(q:aS):Option (List Int):=if q.kind=3/\q.t=0/\q.i=0/\m.fault=0 then fB m.mem q.cut else none
def pg(m:gR)(u:List Int):gR:={m with mem:=mH m.mem u,bZ:=m.bZ+1}
def uX(m:gR):List cN:=if m.p.recover.length=0 then [⟨⟨#[]⟩,[],[],0⟩]else m.p.recover
def oL(m:gR)(q:aS):gR×cH×Int:=match iQ m q with
 | some u=>(qT (pg m u) (uX m),⟨15,0,0,qF q.cut q.cut.length,0⟩,0)
 | none=>if (gS m).any (m9 q)=true then
   (if q.kind=2 then(match m.l[q.t.toNat]? with|some t=>(tg m t q,te q.t (dH t.buf q.i),0)|none=>(m,⟨0,0,0,0,0⟩,13))else((iv m q.t).1,(iv m q.t).2,0))
  else(m,⟨0,0,0,0,0⟩,13)
def mK(t:jY):Bool:=decide (t.cD.length=0)&&decide (t.buf.length=0)
def lz(m:gR):Bool:=decide (m.fault=0)&&!(uT m.l.length).any λi=>match m.l[i]? with|some t=>!mK t|none=>false
def mL(m:gR):Bool:=decide (m.fault=0)&&(!lz m&&decide (((gS m).length:Int)=0))
def iR(m:gR):g9:=⟨m.bZ,m.fault,m.ja,lz m,mL m⟩
def ph(m:gR)(c:gP):Bool:=decide ((pO (gm m.p) (m.mem.l.take (ey m.p).toNat) c.e).2=0)&&decide ((pO (gm m.p) (m.mem.l.take (ey m.p).toNat) c.e).1≠0)
def fb(m:gR):List Bool:=m.p.dS.map (ph m)
def A9(p:cE):List Int:=(uT (cT p).length).map fun (i:Nat)=>py p (i:Int)
def xC(p:cE)(room:Int):gR:=⟨p,room,Jw (A9 p) (ey p) (eT p),[],[],0,0,0⟩
def iS(p:cE)(room:Int):gR:=qT (xC p room) p.threads
def C141(K Φ:hM)(p:Nat)(room:Int)(t:jY)(w:World)(I:Has (eO K Φ p room t) w)(Y:t.buf.length<=1000):CR 141 [.pointer (some ⟨p,0,none⟩)] w (λv w'=>v=.bool (decide (t.buf.length=0))/\Ext w w'):=by
 obtain⟨E,V,rg,pl,es,O,J,G,M,W,U,_⟩:=eO.rd I;have B:=J.cell (o:=0) rfl;have u:=St.start w;refine eX Tryz.func141 ?_;exact aE (aA oS (bM Al (B.ext u.aG) (dT amE u (C153 E _ _ _ (G.ext u.aG) cK) λ_ _ _ u=>aK fS u.dX (aH ⟨vb (ga.2 cK),u.drop.aG⟩))))
def C138(K Φ:hM)(p:Nat)(m:gR)(q:Nat)(t:jY)(w:World)(hm:Has (gn K p m) w)(I:∀w',Ext w w'->K w')(U:oJ m)(hh:Has (eO K Φ q m.room t) w)(Cg:t∈m.l):CR 138 [.pointer (some ⟨p,0,none⟩),.pointer (some ⟨q,0,none⟩)] w (λv w'=>v=.bool (sO m t)/\Ext w w'):=by
 obtain⟨a,J⟩:=gn.rd hm (I _ (Ext.refl _));have O:=J.b.cell (o:=7) rfl;have Gs:=J.b.cell (o:=10) rfl;have G:=U.th t Cg;have G6:=G.bl;have ajx:(cM m.p).length<=500:=by unfold cM;rw[n0];exact U.pz.eJ
 have oG:=Dz G.p;have EW:=G.cl;obtain⟨bp,nv,rg,pl,es,hk,Z,hB,C6,Uo,JB,_⟩:=eO.rd hh;have M:=Z.cell (o:=0) rfl;have Y:=Z.cell (o:=4) rfl;have u:=St.start w;refine oH Tryz.func138 (pl:=axq) ?_;refine dQ Y6 (C137 K q t bp nv rg pl es _ _ Z Uo JB I G.p cK) ?_;rintro v _ ⟨he,hv⟩;have u:=u.ext he
 rcases hv with⟨eE,rfl⟩|⟨x,xa,xb,xv,av,bv,ra,rb,Ce,rfl,zX,_⟩
 .exact aQ rfl (aQ rfl (aQ rfl (aQ rfl (aM u jw λ_ _ u=>aJ (x:=(⟨0,⟨#[]⟩,⟨#[]⟩,bX,bX,0,0,0,0⟩:bE)) u eL rfl rfl λ_ u=>bR (iw ⟨vb (by unfold sO;rw[eE]),u.drop.aG⟩)))))
 obtain⟨ge,gf,rfl,_,_⟩:=jg (zX _ (I _ u.aG));have hx:=(G.top Ce).1;have B:sO m t=(if t.fault≠0\/x.kind=2 then true else if x.kind=3\/x.kind=5\/x.kind=6\/x.kind=7 then !decide (m.room<=t.buf.length)else if x.kind=9/\m.eS.getD (cU (cM m.p) x.name).toNat 0≠-1 then false else decide (t.buf.length=0)):=by unfold sO;rw[Ce]
 refine aQ rfl (aQ rfl (aQ rfl (aQ rfl (aM u jw λb5 w2 u=>aJ (x:=(⟨x.kind,x.eD,x.name,ge,gf,x.n,x.body,x.eu,x.at_⟩:bE)) u eL rfl rfl λw3 u=>bR (ft ?_)))));refine⟨λE w'=>E=.bool (decide (t.fault≠0\/x.kind=2))/\w'=w3,?_,?_⟩
 .exact aE (aA wJ (bM bL (Y.ext u.aG) (bW (aC (λ_=>⟨vb (ez cK).symm,rfl⟩) λ_=>aA dN (aB (v:=hZ x.kind) bL u.hb rfl (aH ⟨vb (ga.2 cK),rfl⟩))))))
 rintro _ w4 ⟨rfl,rfl⟩ _;refine aC (λc1=>?_) (λc1=>?_)
 .exact⟨vb (by rw[B,ew c1]),u.drop.aG⟩
 rw[ej c1]at B;refine⟨λE w'=>E=.bool (decide (x.kind=3\/x.kind=5\/x.kind=6\/x.kind=7))/\w'=w4,?_,?_⟩
 .refine aA dN (aB (v:=hZ x.kind) bL u.hb rfl ?_);exact aH (aC (λ_=>⟨vb (ez cK).symm,rfl⟩) λ_=>aA dN (aB (v:=hZ x.kind) bL u.hb rfl (aH (aC (λ_=>⟨vb (ez cK).symm,rfl⟩) λ_=>aA dN (aB (v:=hZ x.kind) bL u.hb rfl (aH (aC (λ_=>⟨vb (ez cK).symm,rfl⟩) λ_=>aA dN (aB (v:=hZ x.kind) bL u.hb rfl (aH ⟨vb (ga.2 cK),rfl⟩)))))))))
 rintro _ _ ⟨rfl,rfl⟩ _;refine aC (λc2=>?_) (λc2=>?_)
 .exact aE (aA oS (bM Al (M.ext u.aG) (aV afw u (C215 bp _ _ _ (hB.ext u.aG)) λ_ _ u=>bR ⟨vb (by rw[B,ew c2]),u.drop.aG⟩)))
 rw[ej c2]at B;refine⟨λE w'=>E=.bool (decide (x.kind=9/\m.eS.getD (cU (cM m.p) x.name).toNat 0≠-1))/\St w bD [bY b5 (j0 (⟨x.kind,x.eD,x.name,ge,gf,x.n,x.body,x.eu,x.at_⟩:bE))] w',?_,?_⟩
 .have u:=u.drew;refine aA dN (aB (v:=hZ x.kind) bL u.hb rfl (aH (aC (λc3=>?_) λ_=>⟨vb (fN cK).symm,u⟩)));obtain⟨j,hj,B2,_⟩:=lV (dK.1 (hx.lk (.inl c3)));have DZ:=(kE.1 B2).1;have how:=U.ow;refine aE (aA vi (bM eg (Gs.ext u.aG) (aE (aA IN (bM ji (O.ext u.aG) (aA fZ (aB (v:=.string x.name) gv u.hb rfl (aV Hj u (C159 _ (cM m.p) x.name _ (J.uk.ks _ (I _ u.aG)) cK) λ_ he u=>?_))))))));refine⟨aF eg (Gs.ext u.aG),?_⟩;obtain⟨ov,Zk⟩:=gx m.eS (i:=(cU (cM m.p) x.name).toNat) cK
  refine aO cS (J.ow.ext u.aG) cK Zk (λq71 V=>aD bL V (bW ?_));refine⟨vb (ga.2 ?_),u⟩;rw[ob,Zk];exact⟨λh=>⟨c3,h⟩,λh=>h.2⟩
 rintro _ _ ⟨rfl,u⟩ _;refine aC (λW=>?_) (λW=>?_)
 .exact⟨vb (by rw[B,ew W]),u.drop.aG⟩
 exact aV agM u (C141 K Φ q m.room t _ (hh.ext u.aG) G6) (λ_ _ u=>⟨vb (by rw[B,ej W]),u.drop.aG⟩)
def C67(K:hM)(p:Nat)(m:gR)(w:World)(Z:Has (gn K p m) w)(W:∀w',Ext w w'->K w')(I:oJ m):CR 67 [.pointer (some ⟨p,0,none⟩)] w (λv w'=>lg (fT v (gS m)) w w'):=by
 obtain⟨a,E⟩:=gn.rd Z (W _ (Ext.refl _));have FA:=E.b.cell (o:=11) rfl;have Uq:=E.b.cell (o:=13) rfl;have hlen:=E.len;have N3:=I.tl;have u:=St.start w;refine eX Tryz.func67 ?_;refine aE (aA xV (bM bL (Uq.ext u.aG) (bW (aC (λc=>?_) λc=>?_))))
 .have B:gS m=[]:=by unfold gS;rw[ew c]
  rw[B];exact u.IW.fresh
 have B:gS m=ig m m.l.length:=by unfold gS;rw[ej c]
 rw[B];refine aE (aA vj (bM IL (FA.ext u.aG) (aK KS (E.ll.ext u.aG) ?_)));refine⟨λG o y J=>∃k:Nat,y=hZ (k:Int)/\G=a.ps.length-k/\k<=a.ps.length/\St w bD [fT o (ig m k)] J,⟨_,0,rfl,rfl,l1 _,u.IW⟩,?_⟩;rintro G o _ J ⟨k,rfl,rfl,hk,u⟩ _;have oG:=rH I k;have Q8:k*1001<=1001000:=cK
 refine aR (aC (λc1=>?_) λc1=>?_);rotate_left
 .rw[show k=m.l.length from cK]at u;exact u.fresh
 obtain⟨e,V⟩:=gx a.ps (i:=((k:Nat):Int).toNat) cK;obtain⟨t,ht⟩:=gx m.l (i:=k) cK;have Cg:=kO ht;have G6:=(I.th t Cg).bl;have Vp:=E.th k e t V ht;obtain⟨bp,nv,rg,pl,es,Ka,sN,hB,C6,Uo,JB,_⟩:=eO.rd Vp;have M:=sN.cell (o:=0) rfl;refine aO KS (E.ll.ext u.aG) cK V (λq O=>aD GW O ?_);refine⟨λjv w'=>St w bD [fT jv (ig m k++(if sO m t=true then [(⟨1,k,0,[]⟩:aS)]else []))] w',?_,?_⟩
 .refine aV aqJ u (C138 K _ p m e.b t _ (Z.ext u.aG) (λ_ e=>W _ (u.aG.then e)) I (Vp.ext u.aG) Cg) (λ_ V u=>aY (λU=>?_) λU=>?_)
  .refine pop (Cf 1 (k:Int)) (have u:=u.fy (Φ:=λw=>mG w (⟨1,(k:Int),0,bX⟩:aI) (⟨1,(k:Int),0,[]⟩:aS)) (λw=>⟨bX,rfl,DL.nil w⟩);gg (x:=(⟨1,(k:Int),0,[]⟩:aS)) (s:=(⟨1,(k:Int),0,bX⟩:aI)) u fW ee λs29 _ u=>gh u.p1 fW (by rw[mf];omega) ee λs30 _ u=>?_);rw[ew U];exact u
  rw[ej (by rw[U];decide),o6];exact u
 rintro o2 _ u _;refine aE (aA oS (bM Al (M.ext u.aG) (dT amA u (C139 bp _ _ _ (hB.ext u.aG) cK) λM7 _ cL u=>?_)));have EW:=zO t.buf;refine aK cS u.dX ?_;refine⟨λG o y J=>∃j:Nat,y=hZ (j:Int)/\G=(pA t.buf).length-j/\j<=(pA t.buf).length/\St w bD [fT o (ig m k++(if sO m t=true then [(⟨1,k,0,[]⟩:aS)]else [])++((pA t.buf).take j).map λi=>(⟨2,k,i,[]⟩:aS)),bH M7 (pA t.buf)] J,⟨_,0,rfl,rfl,l1 _,by rw[List.take_zero,List.map_nil,o6];exact u.p1⟩,?_⟩;rintro G o3 _ _ ⟨j,rfl,rfl,hj,u⟩ _;refine aR (aC (λc3=>?_) λc3=>?_)
 .obtain⟨y,Y⟩:=gx (pA t.buf) (i:=((j:Nat):Int).toNat) cK;exact aO cS u.p1.dX cK Y (λ_ O=>aD bL O (pop (CJ 2 (k:Int) y) (have u:=u.fy (Φ:=λw=>mG w (⟨2,(k:Int),y,bX⟩:aI) (⟨2,(k:Int),y,[]⟩:aS)) (λw=>⟨bX,rfl,DL.nil w⟩);gg (x:=(⟨2,(k:Int),y,[]⟩:aS)) (s:=(⟨2,(k:Int),y,bX⟩:aI)) u fW ee λ_ _ u=>gh u.p1 fW (by simp only[lY,n0,l0,mf];split<;>simp<;>omega) ee λ_ _ u=>aN cK ⟨_,cK,j+1,rfl,rfl,cK,by rw[<- gd (k:=j) Y,<- n3];exact u⟩)))
 rw[kW cK]at u;refine aN cK ?_;refine⟨_,cK,k+1,rfl,rfl,cK,?_⟩;rw[uc ht];unfold rG;rw[<- n3];exact u.p1.drop
def agR:PL 227:=dJ Tryz.func227
def axA:PL 53:=dJ Tryz.func53
def C158(K:hM)(p:Nat)(m:gR)(i kind:Int)(F:Nat->Prop)(w:World)(E:(gn K p m).p w F):CR 158 [.pointer (some ⟨p,0,none⟩),hZ i,hZ kind] w (λv w'=>v=ia (⟨16,i,kind,0,0⟩:cH)/\mP F (gn K p {m with fault:=kind,ja:=i}) w w'):=by
 have u:=St.begin E;refine eX Tryz.func158 ?_;obtain⟨a,B,u⟩:=gn.open u;exact aM u mq (λ_ _ u=>have u:=u.enc (cs':=j0 (⟨0,0,0,0,0⟩:cH)) rfl;aE (aA xV (aT u.p1 bL (dL rfl) rfl λ_ u=>aE (aA Rv (aT u bL (dL rfl) rfl λ_ u=>pop (tI 16 i kind) (aJ (x:=(⟨16,i,kind,0,0⟩:cH)) u.p1 fm rfl rfl λ_ u=>aD fm u.At ⟨rfl,(gn.shut (m:={m with fault:=kind,ja:=i}) ⟨B.pr,B.cs,B.ks,B.mem,B.rc⟩ u.drop).mut⟩))))))
def C160(K:hM)(p:Nat)(m:gR)(n:Nat)(tp:Ptr)(t:jY)(x:bQ)(V:bE)(F:Nat->Prop)(c:Int)(w:World)(hF:(sep (rF K tp.b m.room t) (mZ K p m n tp)).p w F)(E:∀w',gu F w w'->K w')(M:yh (cT m.p) (cM m.p) t)(J:wq m.mem)(zX:∀w,K w->mG w V x)(C6:0<=cU t.names x.eD):CR 160 [.pointer (some ⟨p,0,none⟩),.pointer (some ⟨tp.b,0,none⟩),ia V,hZ c] w (λv w'=>v=ia (⟨if (lx t.buf c).isSome=true then 2 else 1,0,c,ij m t c,0⟩:cH)/\mP F (sep (rF K tp.b m.room (pe t x.eD (ij m t c))) (mZ K p m n tp)) w w'):=by
 have u:=(St.begin hF).split;obtain⟨U,Z,rfl,_,_⟩:=jg (zX _ (E _ u.aG));obtain⟨j,hj,B2,_⟩:=lV (dK.1 C6);have DZ:=(kE.1 B2).1;have Y8:=M.nb;have Gq:=M.rl;have G6:=M.bl;refine ad3 _ _ _ _ _ _ ?_;unfold S160;refine cI (x:=(⟨x.kind,x.eD,x.name,U,Z,x.n,x.body,x.eu,x.at_⟩:bE)) u (λb6 _ u=>aM u mq λb8 _ u=>?_);have u:=(u.enc (cs':=j0 (⟨0,0,0,0,0⟩:cH)) rfl).p2;obtain⟨B,nv,rg,pl,es,W,u⟩:=eO.open u;refine aE (aA oS (aB Al u.hb rfl (aV amP u (C226 B c m.room t.buf _ (Dy u.p1) cK) λ_ he u=>aQ rfl (aQ rfl ?_))))
 refine⟨λn9 I w'=>n9=hZ (ij m t c)/\I=hZ (if (lx t.buf c).isSome=true then 2 else 1)/\St w F [bY tp.b (A8 B nv rg pl t.fault),jj B m.room t.buf,bH rg t.dP,bH pl (Oa es),eG (λw=>DC K w es t.cD/\True),bY b8 (j0 (⟨0,0,0,0,0⟩:cH)),bY b6 (j0 (⟨x.kind,x.eD,x.name,U,Z,x.n,x.body,x.eu,x.at_⟩:bE)),mZ K p m n tp] w',?_,?_⟩
 .refine bR (aY (λO=>?_) λO=>?_)
  .have h1:(lx t.buf c).isSome=false:=by simpa using O
   have u:=u.p7;obtain⟨a,Y,u⟩:=mZ.open u;exact aE (aA tn (aB KR u.hb rfl (aV agR u (agJ a.q m.mem c _ (Ju u.p1 (Y.1.mem _ (E _ u.aG))) J) λ_ _ u=>aQ rfl (aQ rfl (have u:=(((((((mZ.shut (m:=m) Y u.p4.p4.p4.p4.p4).p7).p7).p7).p7).p7).p7).p7;⟨by unfold ij;rw[ej (by rw[h1];decide)],by rw[ej (by rw[h1];decide)],u⟩)))))
  have h1:(lx t.buf c).isSome=true:=by simpa using O
  exact⟨by unfold ij;rw[ew h1],by rw[ew h1],u⟩
 rintro _ _ _ ⟨rfl,rfl,u⟩ _;have u:=u.drew;refine aE (aA Ap (aB eg u.hb rfl (aE (aA Ao (aB ji u.hb rfl (aA iE (aB (v:=.string x.eD) gv u.p6.hb rfl (aV Hj u (C159 _ t.names x.eD _ (W _ (E _ u.aG)) cK) λ_ he u=>?_))))))));refine⟨aF eg (u.hb.cell rfl),?_⟩;exact dR u.p2 cS cK cK (λ_ G=>js (ij m t c:Int) u.p2 bL G cK λ_ u=>pop (mJ (if (lx t.buf c).isSome=true then 2 else 1) c (ij m t c)) (aJ (x:=(⟨if (lx t.buf c).isSome=true then 2 else 1,0,c,ij m t c,0⟩:cH)) u.p5 fm rfl rfl λ_ u=>aD fm u.At (have u:=eO.shut (Φ:=λ_=>True) (t:=pe t x.eD (ij m t c)) W u.drop.p5.drop.p4.p4.p2.p4.p4;have u:=u.p1.p1;⟨rfl,(St.join u).mut⟩)))
def C163(K:hM)(p:Nat)(m:gR)(n:Nat)(tp:Ptr)(t:jY)(x:bQ)(xv:bE)(F:Nat->Prop)(w:World)(hF:(sep (rF K tp.b m.room t) (mZ K p m n tp)).p w F)(E:∀w',gu F w w'->K w')(kC:yh (cT m.p) (cM m.p) t)(I:wq m.mem)(zX:∀w,K w->mG w xv x)(C6:0<=cU t.names x.eD)(rn:MB m.mem 1000000)(Vm:x.e.length<=1000/\x.f.length<=1000)(hv1:(eI t x.e).2=true)(Y:(eI t x.f).2=true):CR 163 [.pointer (some ⟨p,0,none⟩),.pointer (some ⟨tp.b,0,none⟩),ia xv,hZ (dO m x)] w (λv w'=>v=ia (tJ m t x)/\mP F (sep (rF K tp.b m.room (pe t x.eD (jF m.mem (dO m x)))) (mZ K p (rI m t x) n tp)) w w'):=by
 have u:=(St.begin hF).split;obtain⟨W,gf,rfl,_,_⟩:=jg (zX _ (E _ u.aG))
 have PX:∀w,K w->dA (λ_=>True) w (ia W) x.e/\dA (λ_=>True) w (ia gf) x.f:=λw V=>by
  obtain⟨_,_,h4,h5,h6⟩:=jg (zX w V);cases h4
  exact⟨h5,h6⟩
 obtain⟨j,hj,B2,_⟩:=lV (dK.1 C6);have DZ:=(kE.1 B2).1;have Y8:=kC.nb;have Gq:=kC.rl;have ht1:{t with fault:=if (eI t x.e).2=true then t.fault else 2}=t:=by rw[hv1];rfl
 have Z:{t with fault:=if (eI t x.f).2=true then t.fault else 2}=t:=by rw[Y];rfl
 obtain⟨c,hc⟩:∃c,c=dO m x:=⟨_,rfl⟩;rw[<- hc];refine ad4 _ _ _ _ _ _ ?_;unfold S163;refine cI (x:=(⟨x.kind,x.eD,x.name,W,gf,x.n,x.body,x.eu,x.at_⟩:bE)) u (λb6 _ u=>aM u mq λb8 _ u=>?_);have u:=(u.enc (cs':=j0 (⟨0,0,0,0,0⟩:cH)) rfl).p3;obtain⟨a,B,u⟩:=mZ.open u;refine aE (aA tn (aB KR u.hb rfl (aV agR u (agJ a.q m.mem c _ (Ju u.p1 (B.1.mem _ (E _ u.aG))) I) λ_ he u=>aQ rfl (aQ rfl (aA iV (aB (v:=ia W) ju u.p6.hb rfl (have u:=u.p7;bF MQ u (H':=λ_=>rF K tp.b m.room t) (Φ:=λv _=>v=.tuple #[hZ (eI t x.e).1,.bool (eI t x.e).2]) (λJ O M=>?_) ?_)))))))
 .have:=C161 K _ tp.b m.room t J _ x.e _ O (λw' hc=>E w' (M w' hc).aG) (PX _ (E _ u.aG)).1 cK cK;rw[ht1]at this;exact this
 rintro _ _ rfl u;refine aQ rfl (aQ rfl (aA j8 (aB (v:=ia gf) ju u.p7.hb rfl (bF MQ u (H':=λ_=>rF K tp.b m.room t) (Φ:=λv _=>v=.tuple #[hZ (eI t x.f).1,.bool (eI t x.f).2]) (λJ O M=>?_) ?_))))
 .have:=C161 K _ tp.b m.room t J _ x.f _ O (λw' hc=>E w' (M w' hc).aG) (PX _ (E _ u.aG)).2 cK cK;rw[Z]at this;exact this
 rintro _ _ rfl u;refine aQ rfl (aQ rfl ?_);obtain⟨bp,nv,rg,pl,es,hk,u⟩:=eO.open u;have u:=u.drew;refine aE (aA Ap (aB eg u.hb rfl (aE (aA Ao (aB ji u.hb rfl (aA iE (aB (v:=.string x.eD) gv u.p11.hb rfl (aV Hj u (C159 _ t.names x.eD _ (hk _ (E _ u.aG)) cK) λ_ he u=>?_))))))));refine⟨aF eg (u.hb.cell rfl),?_⟩;refine dR u.p2 cS cK cK (λ_ axC=>js (jF m.mem c:Int) u.p2 bL axC cK λw6' u=>have u:=eO.shut (Φ:=λ_=>True) (t:=pe t x.eD (jF m.mem c)) hk u.p4.p4.p2.p4.p4;bW (aC (λU=>?_) λU=>?_))
 .have G:rI m t x=m:=by unfold rI;rw[<- hc,ej U]
  have zM:tJ m t x=⟨9,0,c,jF m.mem c,0⟩:=by unfold tJ;rw[<- hc,ej U]
  refine pop (mJ 9 c (jF m.mem c)) (aJ (x:=(⟨9,0,c,jF m.mem c,0⟩:cH)) u.p6 fm rfl rfl λ_ u=>aD fm u.At ?_);have u:=(mZ.shut (m:=m) B u.drop.p6.drop.p5.p5.p5.p5.p5).p1;rw[G,zM];exact⟨rfl,(St.join u).mut⟩
 have G:rI m t x={m with mem:=fk m.mem c (eI t x.f).1}:=by unfold rI;rw[<- hc,ew (by simpa using U)]
 have zM:tJ m t x=⟨8,0,c,jF m.mem c,(eI t x.f).1⟩:=by unfold tJ;rw[<- hc,ew (by simpa using U)]
 refine aE (aA tn (aB KR u.p1.hb rfl (have u:=u.p2;bF afq u (H':=λ_=>iK a.q a.ov a.fv (fk m.mem c (eI t x.f).1)) (Φ:=λ_ _=>True) (λJ O M=>?_) ?_)))
 .exact(C156 a.q a.ov a.fv m.mem J c _ _ O (λw' hc=>B.1.mem _ (E w' (M w' hc).aG)) I rn).mono λ_ _ r=>r.mono λ_ _ h=>⟨trivial,h.2⟩
 rintro _ _ _ u;refine pop (yV 8 c (jF m.mem c) (eI t x.f).1) (aJ (x:=(⟨8,0,c,jF m.mem c,(eI t x.f).1⟩:cH)) u.p6 fm rfl rfl λ_ u=>aD fm u.At ?_);have u:=mZ.shut (m:={m with mem:=fk m.mem c (eI t x.f).1}) (⟨⟨B.1.pr,B.1.cs,B.1.ks,λw V=>(B.1.mem w V).write,B.1.rc⟩,B.2⟩) u.drop.p6.drop.p5.p5.p5.p3.p5;have u:=u.p1;rw[G,zM];exact⟨rfl,(St.join u).mut⟩
def C87(cv:Value)(cut:List Int)(w:World)(I:dA (λ_=>True) w cv cut)(V:cut.length<=1000000):CR 87 [cv] w (λv w'=>v=hZ (qF cut cut.length)/\Ext w w'):=by
 have u:=St.start w;refine ajt _ _ _ ?_;unfold S87;refine aK cS (I.ext u.aG) ?_;refine⟨λE n x G=>∃k:Nat,n=hZ (qF cut k)/\x=hZ (k:Int)/\E=cut.length-k/\k<=cut.length/\St w bD [] G,⟨_,0,rfl,rfl,rfl,l1 _,u⟩,?_⟩;rintro E _ _ G ⟨k,rfl,rfl,rfl,O,u⟩ _;refine aR (aC (λU=>?_) λ_=>⟨by rw[show cut.length=k from cK],u.aG⟩);obtain⟨B,J⟩:=gx cut (i:=(k:Int).toNat) cK;exact aO cS I cK J (λ_ M=>aD bL (M.ext u.aG) (wO (uE (aN cK ⟨_,cK,k+1,by rw[Fu (k:=k) J],rfl,rfl,cK,u⟩))))
def C88(q x:aS)(V:aI)(b:Nat)(W:aI)(w:World)(Z:mG w V q)(B:At (λ_=>True) w (.pointer (some ⟨b,0,none⟩)) W)(M:mG w W x):CR 88 [ia V,(.pointer (some ⟨b,0,none⟩))] w (λv w'=>v=.bool (m9 x q)/\Ext w w'):=by
 obtain⟨O,rfl,Y⟩:=Z;obtain⟨U,rfl,J⟩:=M;have u:=St.start w;refine eX Tryz.func88 ?_;refine cI u (λI _ u=>⟨λjv w'=>jv=.bool (m9 x q)/\St w bD [bY I (j0 (⟨q.kind,q.t,q.i,O⟩:aI))] w',?_,?_⟩)
 .refine aA mU (aB (v:=hZ q.kind) bL u.hb rfl (bV x.kind mU B rfl rfl λ_ E=>aD bL (E.ext u.aG) (aH (aC (λgD=>aA lD (aB (v:=hZ q.t) bL u.hb rfl (bV x.t lD B rfl rfl λ_ Xy=>aD bL (Xy.ext u.aG) (aH (aC (λjD=>aA qd (aB (v:=hZ q.i) bL u.hb rfl (bV x.i qd B rfl rfl λ_ lQ=>aD bL (lQ.ext u.aG) (aH (aC (λkS=>?_) λ_=>⟨vb (by unfold m9;first|(simp_all;done)|grind),u⟩))))) λ_=>⟨vb (by unfold m9;first|(simp_all;done)|grind),u⟩))))) λ_=>⟨vb (by unfold m9;first|(simp_all;done)|grind),u⟩))))
  refine bV U l8 B rfl rfl (λ_ wR=>aD eg (wR.ext u.aG) ?_);have G:=DL.flat J;exact aK cS (G.ext u.aG) (aH ⟨vb (by unfold m9;first|(simp_all;done)|grind),u⟩)
 rintro _ _ ⟨rfl,u⟩ _;exact⟨rfl,u.drop.aG⟩
theorem mR.ext{w w':World}{b:Nat}{cs:List Value}(h:mR w b cs)(e:Ext w w'):mR w' b cs:=h.of_eq (e.bY b h.lt λh=>h)
def Ch(s:ByteArray)(a:Int)(t:ByteArray):Bool:=decide (a+t.size<=s.size)&&decide (s.extract a.toNat (a+t.size).toNat=t)
def whF(p:UInt8->Bool)(s:ByteArray):Nat->Nat->Nat
 | 0,a=>a
 | n+1,a=>match (iN s)[a]? with
  | some c=>if p c=true then whF p s n (a+1)else a
  | none=>a
def wk(p:UInt8->Bool)(s:ByteArray)(a:Nat):Nat:=whF p s (s.size-a) a
section
variable {p:UInt8->Bool}{s:ByteArray}{k:Nat}{c:UInt8}
theorem JG(h:s.size<=k):wk p s k=k:=by unfold wk;simp_all[whF]
theorem qU(h:(iN s)[k]?=some c):k<s.size:=by have:=(kE.1 h).1;rw[eV]at this;exact this
theorem FB(h:(iN s)[k]?=some c)(u:p c=true):wk p s k=wk p s (k+1):=by
 have B:=qU h
 unfold wk
 rw[show s.size-k=(s.size-(k+1))+1 from cK,whF,h]
 grind
theorem FC(h:(iN s)[k]?=some c)(u:p c=false):wk p s k=k:=by
 have B:=qU h
 unfold wk
 rw[show s.size-k=(s.size-(k+1))+1 from cK,whF,h]
 grind
end
def uf(c:UInt8):Bool:=decide (c.toNat=32\/c.toNat=9\/c.toNat=10\/c.toNat=13)
def xD(c:UInt8):Bool:=decide (c.toNat≠10)
def sP(c:UInt8):Bool:=gz c.toNat||kq c.toNat
def wm(c:UInt8):Bool:=kq c.toNat
def lB(s:ByteArray):Nat->Nat->Option Nat
 | 0,_=>none
 | n+1,a=>match (iN s)[a]? with
  | none=>some a
  | some c=>if uf c=true then lB s n (a+1)else if Ch s a ⟨#[47,47]⟩=true then lB s n (wk xD s a)else some a
theorem PY{s:ByteArray}{n a r:Nat}(h:lB s n a=some r):∃k,n=k+1:=by
 cases n with
 | zero=>cases h
 | succ k=>grind
section
variable {s:ByteArray}{n a r:Nat}{c:UInt8}
theorem Ur(h:lB s (n+1) a=some r)(u:s.size<=a):r=a:=by
 unfold lB at h;rw[mY (by rw[eV];exact u)]at h;grind
theorem CK(h:lB s (n+1) a=some r)(hc:(iN s)[a]?=some c)(hb:uf c=true):lB s n (a+1)=some r:=by
 grind[lB]
theorem HH(h:lB s (n+1) a=some r)(hc:(iN s)[a]?=some c)(hb:uf c=false)(u:Ch s a ⟨#[47,47]⟩=true):lB s n (wk xD s a)=some r:=by
 grind[lB,wk,xD]
theorem M8(h:lB s (n+1) a=some r)(hc:(iN s)[a]?=some c)(hb:uf c=false)(u:Ch s a ⟨#[47,47]⟩=false):r=a:=by
 unfold lB at h;grind
theorem Zm:∀(n a:Nat) (p:UInt8->Bool),a<=whF p s n a/\whF p s n a<=max a s.size
 | 0,a,p=>⟨o1 _,by unfold whF;omega⟩
 | n+1,a,p=>by
  unfold whF
  cases h:(iN s)[a]? with
  | none=>grind
  | some c=>
   dsimp only
   split
   .have:=Zm n (a+1) p;have:=qU h;omega
   omega
theorem Qa(p:UInt8->Bool):a<=wk p s a/\wk p s a<=max a s.size:=Zm _ _ _
theorem Ba:∀{n a r:Nat},lB s n a=some r->a<=s.size->a<=r/\r<=s.size
 | 0,_,_,h,_=>by cases h
 | n+1,a,r,h,u=>by
  cases hc:(iN s)[a]? with
  | none=>unfold lB at h;grind
  | some c=>
   have B:=qU hc
   cases hb:uf c with
   | true=>have:=Ba (CK h hc hb) cK;omega
   | false=>
    cases hr:Ch s a ⟨#[47,47]⟩with
    | true=>have h1:=Qa (s:=s) (a:=a) xD;have:=Ba (HH h hc hb hr) cK;omega
    | false=>have:=M8 h hc hb hr;omega
end
def C7:List ByteArray:=[⟨#[61,61]⟩,⟨#[33,61]⟩,⟨#[60,61]⟩,⟨#[38,38]⟩,⟨#[124,124]⟩]
def qK(s:ByteArray)(a:Nat)(c:UInt8):Int:=if C7.any (Ch s a)=true then 2 else if (iN (kp #[40,41,123,125,59,44,61,60,33,43,45,42,47,37])).any (λx=>decide ((x.toNat:Int)=c.toNat))=true then 1 else 0
def tK(l:List bT)(i:Int)(t:ByteArray):Bool:=decide (0<=i)&&(match l[i.toNat]? with|some x=>decide (x.text=t)&&decide (x.kind≠2)&&decide (1<=x.kind)&&decide (x.kind<=3)|none=>false)
def nj(l:List bT)(i:Int):Int:=match (if 0<=i then l[i.toNat]? else none)with
 | some x=>x.at_
 | none=>match l.getLast? with
  | some x=>x.at_+x.text.size
  | none=>0
def ad9:∀t∈C7,t.size<=1000000:=ee
def sQ{l:List bT}{i:Int}{t:ByteArray}(h:tK l i t=true):0<=i/\i<l.length:=by
 unfold tK at h
 grind
def C254(s t:ByteArray)(i:Int)(w:World)(J:s.size<=1000000)(B:t.size<=1000000)(I:0<=i/\i<=2000000):CR 254 [.string s,hZ i,.string t] w (λv w'=>v=.bool (Ch s i t)/\Ext w w'):=by
 have G:=St.start w;refine eX Tryz.func254 ?_;refine⟨λE w'=>E=.bool (Ch s i t)/\w=w',fh ik (aN cK (fh ik (iB (aC (λ_=>fh ik (aN cK (Ll ik cK cK cK (jG ⟨vb (by unfold Ch;grind),rfl⟩)))) λ_=>⟨vb (by unfold Ch;grind),rfl⟩)))),?_⟩;rintro _ _ ⟨rfl,u⟩ _;subst u;exact⟨rfl,G.aG⟩
theorem C205(s:ByteArray)(i N r:Nat)(w:World)(Y:s.size<=4000)(h0:i<=s.size)(hr:lB s N i=some r):CR 205 [.string s,hZ (i:Int)] w (λv w'=>v=hZ (r:Int)/\Ext w w'):=by
 have hz0:=Y;replace Y:s.size<=1000000:=cK
 have u:=St.start w;refine eX Tryz.func205 ?_;refine⟨λG x M=>∃a:Nat,x=hZ (a:Int)/\a<=s.size/\lB s G a=some r/\St w bD [] M,⟨N,i,rfl,h0,hr,u⟩,?_⟩;rintro G _ M ⟨a,rfl,ha,I,u⟩ _;obtain⟨k,rfl⟩:=PY I;refine fh ik (aR (aC (λjH=>?_) λjH=>?_))
 .obtain⟨Xt,J⟩:∃xx,(iN s)[(a:Int).toNat]?=some xx:=⟨_,la (by rw[eV];omega)⟩;refine jW ik cK J ⟨λjv w'=>jv=.bool (uf Xt)/\M=w',nG (aC (λ_=>⟨vb (by unfold uf;first|exact(ez cK).symm|exact ga.2 cK),rfl⟩) λ_=>nG (aC (λ_=>⟨vb (by unfold uf;first|exact(ez cK).symm|exact ga.2 cK),rfl⟩) λ_=>nG (aC (λ_=>⟨vb (by unfold uf;first|exact(ez cK).symm|exact ga.2 cK),rfl⟩) λ_=>nG ⟨vb (by unfold uf;first|exact(ez cK).symm|exact ga.2 cK),rfl⟩))),?_⟩
  rintro _ _ ⟨rfl,V⟩ _;subst V;refine aY (λO=>?_) (λO=>aV afA u (C254 s (kp #[47,47]) (a:Int) _ Y ee cK) λ_ he u=>aY (λmc=>?_) λmc=>?_)
  .refine aN cK ?_;have TP:=qU J;exact⟨k,cK,a+1,rfl,cK,CK I J O,u⟩
  .refine⟨λG x M=>∃j:Nat,x=hZ (j:Int)/\G=s.size-j/\a<=j/\j<=s.size/\wk xD s a=wk xD s j/\St w bD [] M,⟨_,a,rfl,rfl,o1 _,ha,rfl,u⟩,?_⟩;rintro G _ w4 ⟨j,rfl,rfl,haj,hj,iT,u⟩ _;refine⟨λjv w'=>jv=.bool (match (iN s)[j]? with|some c=>xD c|none=>false)/\w4=w',fh ik (aR (aC (λme=>?_) λme=>⟨vb (by first|(rw[show(iN s)[j]?=some xu from vx];unfold xD;exact ga.2 cK)|(rw[mY (by rw[eV];omega)])),rfl⟩)),?_⟩
   .obtain⟨xu,vx⟩:∃xx,(iN s)[(j:Int).toNat]?=some xx:=⟨_,la (by rw[eV];omega)⟩;exact jW ik cK vx (WB ⟨vb (by first|(rw[show(iN s)[j]?=some xu from vx];unfold xD;exact ga.2 cK)|(rw[mY (by rw[eV];omega)])),rfl⟩)
   rintro _ _ ⟨rfl,V⟩ _;subst V;refine aY (λB=>?_) (λB=>?_)
   .refine aN cK ?_
    have U:∃c,(iN s)[j]?=some c/\xD c=true:=by
     cases hc:(iN s)[j]? with
     | none=>rw[hc]at B;cases B
     | some c=>rw[hc]at B;exact⟨c,rfl,B⟩
    obtain⟨cj,C8,Us⟩:=U;have DZ:=qU C8;exact⟨_,cK,j+1,rfl,rfl,cK,cK,iT.trans (FB C8 Us),u⟩
   have axF:wk xD s j=j:=by
    by_cases W:j<s.size
    .obtain⟨cj,U⟩:∃c,(iN s)[j]?=some c:=⟨_,la (by rw[eV];exact W)⟩;rw[U]at B;exact FC U B
    .exact JG cK
   have E:=HH I J O mc;rw[iT,axF]at E;exact⟨k,cK,j,rfl,hj,E,u⟩
  have Z:=M8 I J O (by exact_mod_cast mc);subst Z;exact⟨rfl,u.aG⟩
 have Z:=Ur I cK;subst Z;exact⟨rfl,u.aG⟩
def C208(s:ByteArray)(i:Nat)(c:UInt8)(w:World)(hz:s.size<=1000000)(hc:(iN s)[i]?=some c):CR 208 [.string s,hZ (i:Int)] w (λv w'=>v=hZ (qK s i c)/\Ext w w'):=by
 have hi:=qU hc;have u:=St.start w;refine oH Tryz.func208 (pl:=aut) ?_;refine aZ C7 u iy rfl rfl (dL rfl) (λU I u=>?_);refine⟨λE x I=>∃k:Nat,x=hZ (k:Int)/\E=C7.length-k/\k<=C7.length/\(∀y∈C7.take k,Ch s i y=false)/\St w bD [bH U C7] I,⟨_,0,rfl,rfl,l1 _,ei,u⟩,?_⟩;rintro E _ _ ⟨k,rfl,rfl,hk,G,u⟩ _;refine aK iy u.dX ?_;have N3:C7.length=5:=rfl;refine aR (aC (λwV=>?_) λwV=>?_)
 .obtain⟨V,J⟩:=gx C7 (i:=(k:Int).toNat) cK;exact dR u iy cK cK (λ_ Me=>gL u gv Me J (aV afA u (C254 s V (i:Int) _ hz (ad9 _ (kO J)) cK) λ_ _ u=>aY (λiM=>⟨gN (nf .i64) (by unfold qK;rw[ew (hG J iM)]),u.drop.aG⟩) λiM=>aN cK ⟨_,cK,k+1,rfl,rfl,cK,dY G J iM,u⟩))
 have u:=u.drop;refine⟨λE x I=>∃j:Nat,x=hZ (j:Int)/\E=(kp #[40,41,123,125,59,44,61,60,33,43,45,42,47,37]).size-j/\j<=(kp #[40,41,123,125,59,44,61,60,33,43,45,42,47,37]).size/\(∀y∈(iN (kp #[40,41,123,125,59,44,61,60,33,43,45,42,47,37])).take j,decide ((y.toNat:Int)=c.toNat)=false)/\St w bD [] I,⟨_,0,rfl,rfl,l1 _,ei,u⟩,?_⟩;rintro E _ _ ⟨j,rfl,rfl,hj,W,u⟩ _;refine fh ik ?_;have Kd:(kp #[40,41,123,125,59,44,61,60,33,43,45,42,47,37]).size=14:=rfl;refine aR (aC (λyL=>?_) λyL=>?_)
 .obtain⟨Y,O⟩:∃xx,(iN (kp #[40,41,123,125,59,44,61,60,33,43,45,42,47,37]))[(j:Int).toNat]?=some xx:=⟨_,la (by rw[eV];omega)⟩;refine jW ik cK O ?_;obtain⟨uV,o9⟩:∃xx,(iN s)[(i:Int).toNat]?=some xx:=⟨_,la (by rw[eV];omega)⟩;refine jW ik cK o9 ?_;obtain rfl:=oe.inj (o9.symm.trans hc);refine nG (aC (λZ=>?_) λZ=>aN cK (have u:=u.drew;⟨_,cK,j+1,rfl,rfl,cK,dY W O (fN Z),u⟩));have u:=u.drew;have B:C7.any (Ch s i)=false:=iz (by rw[kW cK]at G;exact G)
  exact⟨gN (nf .i64) (by unfold qK;rw[ej (by rw[B];simp),ew (hG O (ez Z))]),u.aG⟩
 have B:C7.any (Ch s i)=false:=iz (by rw[kW cK]at G;exact G);have M:=iz (g:=λx:UInt8=>decide ((x.toNat:Int)=c.toNat)) (by rw[kW (by rw[eV];omega)]at W;exact W);exact⟨gN (nf .i64) (by unfold qK;rw[ej (by rw[B];simp),ej (by rw[M];simp)]),u.aG⟩
def C209(lv:Value)(l:List bT)(i:Int)(t:ByteArray)(w:World)(E:dA (λ_=>True) w lv l)(hn:l.length<=1000000):CR 209 [lv,hZ i,.string t] w (λv w'=>v=.bool (tK l i t)/\Ext w w'):=by
 have B:=St.start w;refine eX Tryz.func209 ?_;refine⟨λjv w'=>jv=.bool (tK l i t)/\w=w',cR (aC (λM=>aK fK (E.ext B.aG) (aR (aC (λU=>?_) λU=>⟨vb (by unfold tK;first|(rw[u];grind)|(rw[fN cK];rfl)|(rw[mY cK];simp)),rfl⟩))) λM=>⟨vb (by unfold tK;first|(rw[u];grind)|(rw[fN cK];rfl)|(rw[mY cK];simp)),rfl⟩),?_⟩
 .obtain⟨G,u⟩:=gx l (i:=(i).toNat) cK;refine aO fK E cK u (λ_ V=>bV G.text nA V rfl rfl λ_ Z=>aD gv (Z.ext B.aG) (jG (aC (λiM=>?_) λiM=>⟨vb (by unfold tK;first|(rw[u];grind)|(rw[fN cK];rfl)|(rw[mY cK];simp)),rfl⟩)));refine aO fK E cK u (λ_ W=>?_);exact bV G.kind lK W rfl rfl (λ_ J=>aD bL (J.ext B.aG) (bW (aC (λO=>aO fK E cK u λ_ Lw=>bV G.kind lK Lw rfl rfl λ_ Y=>aD bL (Y.ext B.aG) (cR (aC (λrj=>aO fK E cK u λ_ vW=>bV G.kind lK vW rfl rfl λ_ uU=>aD bL (uU.ext B.aG) (iB ⟨vb (by unfold tK;first|(rw[u];grind)|(rw[fN cK];rfl)|(rw[mY cK];simp)),rfl⟩)) λrj=>⟨vb (by unfold tK;first|(rw[u];grind)|(rw[fN cK];rfl)|(rw[mY cK];simp)),rfl⟩))) λO=>⟨vb (by unfold tK;first|(rw[u];grind)|(rw[fN cK];rfl)|(rw[mY cK];simp)),rfl⟩)))
 rintro _ _ ⟨rfl,I⟩ _;subst I;exact⟨rfl,B.aG⟩
def C214(lv:Value)(l:List bT)(i:Int)(w:World)(B:dA (λ_=>True) w lv l)(hn:l.length<=1000000)(V:∀x∈l,0<=x.at_/\x.at_<=1000000/\x.text.size<=1000000):CR 214 [lv,hZ i] w (λv w'=>v=hZ (nj l i)/\Ext w w'):=by
 have u:=St.start w;refine oH Tryz.func214 (pl:=auw) ?_;refine⟨λjv w'=>jv=.bool (decide (0<=i/\i<l.length))/\w=w',cR (aC (λ_=>aK fK (B.ext u.aG) (aR ⟨yB cK,rfl⟩)) λ_=>⟨jvF cK,rfl⟩),?_⟩;rintro _ _ ⟨rfl,O⟩ _;subst O;refine aC (λU=>?_) (λU=>aK fK (B.ext u.aG) (aH (aC (λoz=>?_) λoz=>?_)))
 .obtain⟨Et,M⟩:=gx l (i:=(i).toNat) cK;exact aO fK B cK M (λ_ Z=>bV Et.at_ lL Z rfl rfl λ_ Y=>aD bL (Y.ext u.aG) ⟨gN (nf .i64) (by unfold nj;rw[ew cK,M]),u.aG⟩)
 .have G:l=[]:=r6.1 cK;subst G;exact⟨gN (nf .i64) (by unfold nj;split<;>simp_all),u.aG⟩
 refine aK fK (B.ext u.aG) (fg cK ?_);obtain⟨I,E⟩:=gx l (i:=((l.length:Int)-1).toNat) cK;refine aO fK B cK E (λ_ Fb=>bV I.at_ lL Fb rfl rfl λ_ wX=>have u:=u.drew;aD bL (wX.ext u.aG) (aK fK (B.ext u.aG) (fg cK (aO fK B cK E λ_ xj=>bV I.text nA xj rfl rfl λ_ rf=>aD gv (rf.ext u.aG) (fh ik ?_)))));have W:=V _ (kO E);refine aN cK ?_;have J:l.getLast? = some I:=by rw[List.getLast?_eq_getElem?,<- E];congr 1;omega
 have eE:(if 0<=i then l[i.toNat]? else none)=none:=by split;exact mY cK;rfl
 exact⟨gN (nf .i64) (by unfold nj;rw[eE,J]),u.aG⟩
def numOf(s:ByteArray)(a k:Nat):Int:=(((iN s).drop a).take (k-a)).foldl (λn c=>if n<=4294967296 then 10*n+((c.toNat:Int)-48)else n) 0
theorem SH(s:ByteArray)(a:Nat):numOf s a a=0:=by unfold numOf;grind
theorem zP{s:ByteArray}{a k:Nat}{c:UInt8}(u:a<=k)(h:(iN s)[k]?=some c):numOf s a (k+1)=if numOf s a k<=4294967296 then 10*numOf s a k+((c.toNat:Int)-48)else numOf s a k:=by
 unfold numOf
 rw[show k+1-a=(k-a)+1 from cK,ta,HZ,show a+(k-a)=k from cK,h,H3,CO]
 rfl
theorem aea{s:ByteArray}{a:Nat}:∀{k:Nat},a<=k->k<=s.size->(∀j c,a<=j->j<k->(iN s)[j]?=some c->48<=(c.toNat:Int)/\(c.toNat:Int)<=57)->0<=numOf s a k/\numOf s a k<=42949672969:=by
 intro k
 induction k with
 | zero=>
  grind[iN,numOf]
 | succ k B=>
  intro G E u
  by_cases e:a=k+1
  .subst e;rw[SH];omega
  .have:=B cK cK λj c h1 h2=>u j c h1 cK
   obtain⟨c,hc⟩:∃c,(iN s)[k]?=some c:=⟨_,la (by rw[eV];omega)⟩
   have h2:=u k c cK cK hc
   rw[zP cK hc]
   omega
def mM(s:ByteArray):Nat->Nat->List bT->Option (List bT×Int×Int)
 | 0,_,_=>none
 | n+1,a,out=>match (iN s)[a]? with
  | none=>some (out,0,0)
  | some c=>
   if gz c.toNat=true then(if 16<wk sP s a-a then some ([],2,(a:Int))else(lB s (s.size+1) (wk sP s a)).bind λu=>mM s n u (out++[⟨1,s.extract a (wk sP s a),0,a⟩]))
   else if kq c.toNat=true then(if 4294967296<numOf s a (wk wm s a)then some ([],4,(a:Int))else(lB s (s.size+1) (wk wm s a)).bind λu=>mM s n u (out++[⟨2,s.extract a (wk wm s a),numOf s a (wk wm s a),a⟩]))
   else if qK s a c=0 then some ([],3,(a:Int))else(lB s (s.size+1) (a+(qK s a c).toNat)).bind λu=>mM s n u (out++[⟨3,s.extract a (a+(qK s a c).toNat),0,a⟩])
def vY(s:ByteArray):Option (List bT×Int×Int):=if 4000<s.size then some ([],2,4000)else(lB s (s.size+1) 0).bind λa=>mM s (s.size+2) a []
theorem Qc{s:ByteArray}{n a:Nat}{out:List bT}{r:List bT×Int×Int}(h:mM s n a out=some r):∃k,n=k+1:=by
 cases n with
 | zero=>cases h
 | succ k=>grind
def yi(s:ByteArray)(k a:Nat)(out:List bT)(R:List bT×Int×Int)(B:Int)(e:Nat)(n:Int):Prop:=a<e/\e<=s.size/\∃u,lB s (s.size+1) e=some u/\mM s k u (out++[⟨B,s.extract a e,n,a⟩])=some R
section
variable {s:ByteArray}{k a:Nat}{c:UInt8}{out:List bT}{R:List bT×Int×Int}
theorem Ut(h:mM s (k+1) a out=some R)(u:s.size<=a):R=(out,0,0):=by
 unfold mM at h;rw[mY (by rw[eV];exact u)]at h;grind
theorem Gt(h:mM s (k+1) a out=some R)(hc:(iN s)[a]?=some c)(u:gz c.toNat=true)(hb:16<wk sP s a-a):R=([],2,(a:Int)):=by
 unfold mM at h;grind
theorem Ci{e:Nat}{u n:Int}(h:((lB s (s.size+1) e).bind λB=>mM s k B (out++[⟨u,s.extract a e,n,a⟩]))=some R)(h1:a<e)(h2:e<=s.size):yi s k a out R u e n:=by
 cases hp:lB s (s.size+1) e with
 | none=>grind
 | some B=>grind[yi]
theorem Uu(h:mM s (k+1) a out=some R)(hc:(iN s)[a]?=some c)(B:gz c.toNat=true)(hb:¬ 16<wk sP s a-a)(u:a<wk sP s a):yi s k a out R 1 (wk sP s a) 0:=by
 unfold mM at h;rw[hc]at h;dsimp only at h;rw[ew B,ej hb]at h
 have:=qU hc;have h2:=Qa (s:=s) (a:=a) sP
 exact Ci h u cK
theorem JH(h:mM s (k+1) a out=some R)(hc:(iN s)[a]?=some c)(u:gz c.toNat=false)(B:kq c.toNat=true)(hb:4294967296<numOf s a (wk wm s a)):R=([],4,(a:Int)):=by
 unfold mM at h;grind
theorem Zn(h:mM s (k+1) a out=some R)(hc:(iN s)[a]?=some c)(E:gz c.toNat=false)(B:kq c.toNat=true)(hb:¬ 4294967296<numOf s a (wk wm s a))(u:a<wk wm s a):yi s k a out R 2 (wk wm s a) (numOf s a (wk wm s a)):=by
 unfold mM at h;rw[hc]at h;dsimp only at h;rw[ej dD,ew B,ej hb]at h
 have:=qU hc;have h2:=Qa (s:=s) (a:=a) wm
 exact Ci h u cK
theorem Uv(h:mM s (k+1) a out=some R)(hc:(iN s)[a]?=some c)(u:gz c.toNat=false)(B:kq c.toNat=false)(hb:qK s a c=0):R=([],3,(a:Int)):=by
 unfold mM at h;grind
theorem Zo(s:ByteArray)(a:Nat)(c:UInt8):qK s a c=0\/qK s a c=1\/qK s a c=2:=by
 grind[qK]
theorem SJ{s:ByteArray}{a:Nat}{c:UInt8}(h:(iN s)[a]?=some c):(a:Int)+qK s a c<=s.size:=by
 have B:=qU h
 unfold qK
 split
 .rename_i h2
  rw[wY]at h2
  obtain⟨t,ht,hb⟩:=h2
  have:t.size=2:=by
   have u:∀t∈C7,t.size=2:=ee
   grind
  unfold Ch at hb
  grind
 omega
theorem Uw(h:mM s (k+1) a out=some R)(hc:(iN s)[a]?=some c)(u:gz c.toNat=false)(B:kq c.toNat=false)(hb:¬ qK s a c=0):yi s k a out R 3 (a+(qK s a c).toNat) 0:=by
 unfold mM at h;rw[hc]at h;dsimp only at h;rw[ej dD,ej dD,ej hb]at h
 have h1:=Zo s a c;have h2:=SJ hc
 exact Ci h cK cK
end
theorem C130(s:ByteArray)(R:List bT×Int×Int)(w:World)(TK:s.size<=1000000)(U:vY s=some R):CR 130 [.string s] w (λv w'=>∃o,v=.tuple #[o,hZ R.2.1,hZ R.2.2]/\lg (bH o R.1) w w'):=by
 have u:=St.start w;refine abM _ _ _ ?_;unfold S130;refine fh ik (cO (aC (λjB=>?_) λjB=>?_))
 .have W:([],2,4000)=R:=by unfold vY at U;rw[ew cK]at U;exact oe.inj U
  subst W;exact⟨_,rfl,u.eM.fresh⟩
 have h4:s.size<=4000:=cK
 obtain⟨a0,ha0,N8⟩:∃a0,lB s (s.size+1) 0=some a0/\mM s (s.size+2) a0 []=some R:=by
  unfold vY at U;rw[ej cK]at U;cases hq:lB s (s.size+1) 0 with
  | none=>rw[hq]at U;cases U
  | some a0=>rw[hq]at U;exact⟨a0,rfl,U⟩
 have axG:=Ba ha0 cK;refine aZ ([]:List bT) u fK rfl rfl (dL rfl) (λs_x12 _ u=>aV afu u (C205 s 0 (s.size+1) a0 _ cK cK ha0) λ_ he u=>?_);refine⟨λmm o x w'=>∃(a:Nat) (out:List bT),x=hZ (a:Int)/\a<=s.size/\out.length<=a/\mM s mm a out=some R/\St w bD [bH o out] w',⟨_,a0,[],rfl,axG.2,l1 _,N8,u⟩,?_⟩;rintro mm ze _ _ ⟨a,out,rfl,ha,Kd,hp,u⟩ _;obtain⟨k,rfl⟩:=Qc hp;refine fh ik (aR (aC (λlP=>pop (Wq _) (aM u acf λUx _ u=>aJ (x:=(⟨0,(kp #[]),0,(a:Int)⟩:bT)) u afI rfl rfl λ_ u=>⟨λto w'=>∃(kd:Int) (e:Nat) (n:Int),to=hZ (e:Int)/\yi s k a out R kd e n/\St w bD [bY Ux (j0 (⟨kd,kp #[],n,(a:Int)⟩:bT)),bH ze out] w',?_,?_⟩)) λlP=>?_))
 .obtain⟨iH,jQ⟩:∃xx,(iN s)[(a:Int).toNat]?=some xx:=⟨_,la (by rw[eV];omega)⟩;refine jW ik cK jQ ?_;have B:(iN s)[a]?=some iH:=jQ;refine aV Rg u (C206 _ _) (λ_ he u=>aY (λjC=>?_) λjC=>?_)
  .have E:=jC;refine aA lK (aT u bL (dL rfl) (rfl) λ_ u=>?_);have u:=u.enc (cs':=j0 ({ (⟨0,(kp #[]),0,(a:Int)⟩:bT)with kind:=1}:bT)) rfl;have u:=u.p1.p1;refine⟨λmm x w'=>∃j:Nat,x=hZ (j:Int)/\mm=s.size-j/\a<=j/\j<=s.size/\wk sP s a=wk sP s j/\St w bD [bY Ux (j0 (⟨1,kp #[],0,(a:Int)⟩:bT)),bH ze out] w',⟨_,a,rfl,rfl,o1 _,ha,rfl,u⟩,?_⟩;rintro mm _ _ ⟨j,rfl,rfl,Z,hj,I,u⟩ _;refine⟨λjv w'=>jv=.bool (match (iN s)[j]? with|some c=>sP c|none=>false)/\St w bD [bY Ux (j0 (⟨1,kp #[],0,(a:Int)⟩:bT)),bH ze out] w',fh ik (aR (aC (λrp=>?_) λrp=>⟨vb (by first|(rw[show(iN s)[j]?=some J from o9];show _=(gz J.toNat||kq J.toNat);rw[me];rfl)|(rw[mY (by rw[eV];omega)])),u⟩)),?_⟩
   .obtain⟨J,o9⟩:∃xx,(iN s)[(j:Int).toNat]?=some xx:=⟨_,la (by rw[eV];omega)⟩;refine jW ik cK o9 ?_;have hcj0:(iN s)[j]?=some J:=o9;exact aV Rg u (C206 _ _) (λ_ he u=>aY (λme=>⟨vb (by first|(rw[show(iN s)[j]?=some J from o9];show _=(gz J.toNat||kq J.toNat);rw[me];rfl)|(rw[mY (by rw[eV];omega)])),u⟩) λme=>jW ik cK o9 (aV Rh u (C207 _ _) λ_ he u=>⟨vb (by first|(rw[show(iN s)[j]?=some J from o9];show _=(gz J.toNat||kq J.toNat);rw[me];rfl)|(rw[mY (by rw[eV];omega)])),u⟩))
   rintro _ _ ⟨rfl,u⟩ _;refine aY (λV=>?_) (λV=>?_)
   .refine aN cK ?_
    have SG:∃c,(iN s)[j]?=some c/\sP c=true:=by
     cases hc:(iN s)[j]? with
     | none=>rw[hc]at V;cases V
     | some c=>rw[hc]at V;exact⟨c,rfl,V⟩
    obtain⟨cj,O,Us⟩:=SG;have DZ:=qU O;exact⟨_,cK,j+1,rfl,rfl,cK,cK,I.trans (FB O Us),u⟩
   have Y:wk sP s j=j:=by
    by_cases hjs:j<s.size
    .obtain⟨cj,SG⟩:∃c,(iN s)[j]?=some c:=⟨_,la (by rw[eV];exact hjs)⟩;rw[SG]at V;exact FC SG V
    .exact JG cK
   refine fg cK (cO (aC (λRY=>?_) λRY=>?_))
   .have u:=u.drop.drop;have W:=Gt hp B E (by rw[I,Y];omega);subst W;exact⟨_,rfl,u.eM.fresh⟩
   have u:=u.p1.p1
   have hgt:a<j:=by
    rcases N7 a j with h|h
    .exact h
    .obtain rfl:j=a:=cK
     rw[B]at V;have h9:sP iH=false:=V;unfold sP at h9;rw[E]at h9;cases h9
   have M:=Uu hp B E (by rw[I,Y];omega) (by rw[I,Y];exact hgt);rw[I,Y]at M;exact⟨1,j,0,rfl,M,u⟩
  have E:=jC;refine jW ik cK jQ (aV Rh u (C207 _ _) λ_ he u=>aY (λCB=>?_) λCB=>?_)
  .have G:=CB;refine aA lK (aT u bL (dL rfl) (rfl) λ_ u=>?_);have u:=u.enc (cs':=j0 ({ (⟨0,(kp #[]),0,(a:Int)⟩:bT)with kind:=2}:bT)) rfl;have u:=u.p1.p1;refine⟨λmm x w'=>∃j:Nat,x=hZ (j:Int)/\mm=s.size-j/\a<=j/\j<=s.size/\wk wm s a=wk wm s j/\(∀(i:Nat) (c:UInt8),a<=i->i<j->(iN s)[i]?=some c->48<=(c.toNat:Int)/\(c.toNat:Int)<=57)/\St w bD [bY Ux (j0 (⟨2,kp #[],(numOf s a j),(a:Int)⟩:bT)),bH ze out] w',⟨_,a,rfl,rfl,o1 _,ha,rfl,λ_ _ h1 _=>absurd h1 cK,by rw[SH];exact u⟩,?_⟩;rintro mm _ _ ⟨j,rfl,rfl,Z,hj,I,hdg,u⟩ _
   refine⟨λjv w'=>jv=.bool (match (iN s)[j]? with|some c=>wm c|none=>false)/\St w bD [bY Ux (j0 (⟨2,kp #[],(numOf s a j),(a:Int)⟩:bT)),bH ze out] w',fh ik (aR (aC (λHc=>?_) λHc=>⟨vb (by first|(rw[show(iN s)[j]?=some agS from Qd];rfl)|(rw[mY (by rw[eV];omega)])),u⟩)),?_⟩
   .obtain⟨agS,Qd⟩:∃xx,(iN s)[(j:Int).toNat]?=some xx:=⟨_,la (by rw[eV];omega)⟩;exact jW ik cK Qd (aV Rh u (C207 _ _) λ_ he u=>⟨vb (by first|(rw[show(iN s)[j]?=some agS from Qd];rfl)|(rw[mY (by rw[eV];omega)])),u⟩)
   rintro _ _ ⟨rfl,u⟩ _;refine aY (λuQ=>?_) (λuQ=>?_)
   .have SG:∃c,(iN s)[j]?=some c/\wm c=true:=by
     cases hc:(iN s)[j]? with
     | none=>rw[hc]at uQ;cases uQ
     | some c=>rw[hc]at uQ;exact⟨c,rfl,uQ⟩
    obtain⟨cj,O,Us⟩:=SG;have DZ:=qU O;have hcd:=Us;unfold wm kq at hcd;rw[decide_eq_true_eq]at hcd;have Y8:=aea Z cK hdg;refine⟨λw'=>St w bD [bY Ux (j0 (⟨2,kp #[],(numOf s a (j+1)),(a:Int)⟩:bT)),bH ze out] w',aA sd (aB (v:=hZ (numOf s a j)) bL u.hb rfl (iB (aC (λwP=>?_) λwP=>?_))),?_⟩
    .refine aA sd (have u:=u.drew;aB (v:=hZ (numOf s a j)) bL u.hb rfl (IB cK ?_));obtain⟨aqY,Zq⟩:∃xx,(iN s)[(j:Int).toNat]?=some xx:=⟨_,la (by rw[eV];omega)⟩;refine jW ik cK Zq ?_;obtain rfl:=oe.inj (Zq.symm.trans (show(iN s)[(j:Int).toNat]?=some cj from O));refine YX cK (Ui auZ KQ cK (aN cK (aA sd (aT u bL (dL rfl) (rfl) λ_ u=>?_))));have u:=u.enc (cs':=j0 ({ (⟨2,kp #[],(numOf s a j),(a:Int)⟩:bT)with n:=((10*(numOf s a j))+((aqY.toNat:Int)-48))}:bT)) rfl
     have u:=u.p1.p1;rw[zP Z O,ew wP];exact u
    .have u:=u.p1.p1;rw[zP Z O,ej wP];exact u
    intro _ u _;refine aN cK ?_
    exact⟨_,cK,j+1,rfl,rfl,cK,cK,I.trans (FB O Us),λi c h1 h2 h3=>by
     by_cases e:i=j
     .subst e;obtain rfl:=oe.inj (h3.symm.trans O);omega
     .exact hdg i c h1 cK h3,u⟩
   have Y:wk wm s j=j:=by
    by_cases hjs:j<s.size
    .obtain⟨cj,SG⟩:∃c,(iN s)[j]?=some c:=⟨_,la (by rw[eV];exact hjs)⟩;rw[SG]at uQ;exact FC SG uQ
    .exact JG cK
   refine aA sd (aB (v:=hZ (numOf s a j)) bL u.hb rfl (cO (aC (λaf5=>?_) λaf5=>?_)))
   .have u:=u.drop.drop;have W:=JH hp B E G (by rw[I,Y];omega);subst W;exact⟨_,rfl,u.eM.fresh⟩
   have u:=u.p1.p1
   have hgt:a<j:=by
    rcases N7 a j with h|h
    .exact h
    .obtain rfl:j=a:=cK
     rw[B]at uQ;have h9:wm iH=false:=uQ;unfold wm at h9;rw[G]at h9;cases h9
   have M:=Zn hp B E G (by rw[I,Y];omega) (by rw[I,Y];exact hgt);rw[I,Y]at M;exact⟨2,j,_,rfl,M,u⟩
  have G:=CB;have hsb:=Zo s a iH;have hsi:=SJ B;refine aA lK (aT u bL (dL rfl) (rfl) λ_ u=>have u:=u.enc (cs':=j0 ({ (⟨0,(kp #[]),0,(a:Int)⟩:bT)with kind:=3}:bT)) rfl;aV amJ u (C208 s a iH _ TK B) λ_ he u=>aN cK (aH (aC (λaqZ=>?_) λaqZ=>?_)))
  .have u:=u.drop.drop;have W:=Uv hp B E G cK;subst W;exact⟨_,rfl,u.eM.fresh⟩
  have u:=u.p1.p1;have M:=Uw hp B E G cK;exact⟨3,a+(qK s a iH).toNat,0,by congr 1;omega,M,u⟩
 .rintro _ _ ⟨kd,e,n,rfl,M,u⟩ _;have axH:=M;obtain⟨h1e0,h2e0,_⟩:=axH;refine Ll ik cK cK cK (aA nA (aT u gv (dL rfl) (rfl) λ_ u=>have u:=u.enc (cs':=j0 ({ (⟨kd,kp #[],n,(a:Int)⟩:bT)with text:=(s.extract (a:Int).toNat (e:Int).toNat)}:bT)) rfl;aD afI u.At (aZ ([(⟨kd,s.extract (a:Int).toNat (e:Int).toNat,n,(a:Int)⟩:bT)]) u fK rfl rfl (dL rfl) λajB _ u=>?_)));have aeb:=u.dX;refine bJ u.p2 fK aeb (by simp;omega) ee (λajC _ u=>?_);have u:=u.p1.drop;obtain⟨h1e,h2e,a2,ha2,hp2⟩:=M
  have axI:=Ba ha2 h2e;exact aV afu u (C205 s e (s.size+1) a2 _ cK cK ha2) (λ_ _ u=>have u:=u.p1.drop;⟨k,cK,a2,_,rfl,axI.2,by simp;omega,hp2,u⟩)
 have W:=Ut hp cK;subst W;exact⟨_,rfl,u.fresh⟩
structure fL where
 l:(List cA)
 to:Int
 e:Int
 at_:Int
deriving DecidableEq
structure dZ where
 l:SV
 to:Int
 e:Int
 at_:Int
instance:Flat dZ where
 agg:=true
 sz:=4
 enc e:=[.slice e.l.a e.l.n e.l.cap,hZ e.to,hZ e.e,hZ e.at_]
 val e:=.agg [.slice e.l.a e.l.n e.l.cap,hZ e.to,hZ e.e,hZ e.at_].toArray
 pos:=ee
 len _:=rfl
 one a v h:=by grind[wB]
 nx _ _:=rfl
 nT h:=by cases h
instance:Deep fL dZ where
 dr w s x:=∃(u:SV),s=(⟨u,x.to,x.e,x.at_⟩:dZ)/\DL w (ia u) x.l
 ext h e:=by
  obtain⟨E,rfl,B⟩:=h
  exact⟨E,rfl,B.ext e⟩
def lF{w:World}{u:dZ}{x:fL}(h:mG w u x):DL w (ia u.l) x.l:=by obtain⟨_,rfl,h⟩:=h;exact h
def qV(n:Int):List Int:=if n=0 then [15]else if n=1 then [14]else if n=2 then [10,11,12,13]else if n=3 then [5,6]else [7,8,9]
def DD:List ByteArray:=[⟨#[]⟩,⟨#[]⟩,⟨#[]⟩,⟨#[45]⟩,⟨#[33]⟩,⟨#[43]⟩,⟨#[45]⟩,⟨#[42]⟩,⟨#[47]⟩,⟨#[37]⟩,⟨#[61,61]⟩,⟨#[33,61]⟩,⟨#[60]⟩,⟨#[60,61]⟩,⟨#[38,38]⟩,⟨#[124,124]⟩]
def M9(k:Int):ByteArray:=(DD[k.toNat]?).getD ⟨#[]⟩
def gp(l:List bT)(i e:Int):fL:=⟨[],0,if (l.length:Int)<=i then 6 else e,nj l i⟩
abbrev aq0(r:fL)(w:World):=tP λv w'=>∃u:dZ,v=ia u/\lg (eG λw=>mG w u r) w w'
def ajD(l:List bT)(rec:Int->Int->Int->Option fL):Prop:=∀(lv:Value) (i d n:Int) (r:fL) (w:World),dA (λ_=>True) w lv l->rec i d n=some r->0<=i/\i<=l.length->0<=d/\d<=12->0<=n/\n<=5->
 Calls hH 258 [lv,hZ i,hZ d,hZ n].toArray w (aq0 r w)/\(n=5->Calls hH 294 [lv,hZ i,hZ d].toArray w (aq0 r w))
structure jk(l:List bT):Prop where
 n:l.length<=5000
 at_:∀x∈l,0<=x.at_/\x.at_<=1000000/\x.text.size<=1000000
def Uy(l:List bT)(i:Int):Bool:=tK l i ⟨#[33]⟩||tK l i ⟨#[45]⟩
def pj(rec:Int->Int->Int->Option fL)(l:List bT)(i d:Int):Option fL:=
 match (if (l.length:Int)<=i then none else l[i.toNat]?)with
 | none=>some (gp l i 6)
 | some t=>if ((Uy l i||tK l i ⟨#[40]⟩)&&decide (d=12))=true then some (gp l i 7)
  else if Uy l i=true then(rec (i+1) (d+1) 5).bind λx=>if x.l.length<=10000 then some (if x.e≠0 then x else {x with l:=[⟨if t.text=⟨#[45]⟩then 3 else 4,0,⟨#[]⟩,t.at_⟩]++x.l})else none
  else if tK l i ⟨#[40]⟩=true then(rec (i+1) (d+1) 0).bind λx=>some (if x.e≠0 then x else if tK l x.to ⟨#[41]⟩=true then {x with to:=x.to+1}else gp l x.to 5)
  else if t.kind=2 then some ⟨[⟨1,t.n,⟨#[]⟩,t.at_⟩],i+1,0,0⟩
  else if (decide (t.kind=1)&&gJ t.text)=true then some ⟨[⟨2,0,t.text,t.at_⟩],i+1,0,0⟩
  else some (gp l i 5)
def FD(l:List bT)(to n:Int)(k:Nat):Int:=((qV n).take k).foldl (λop f=>if tK l to (M9 f)=true then f else op) 0
def JI(l:List bT)(to n:Int):Int:=FD l to n (qV n).length
theorem HI{l:List bT}{to n:Int}{k:Nat}{f:Int}(h:(qV n)[k]?=some f):FD l to n (k+1)=if tK l to (M9 f)=true then f else FD l to n k:=by
 unfold FD;rw[ta,h,H3,CO];rfl
def vZ(rec:Int->Int->Int->Option fL)(l:List bT)(d n:Int):Nat->fL->Option fL
 | 0,_=>none
 | k+1,x=>if x.e≠0 then some x else if JI l x.to n=0 then some x else match (if 0<=x.to then l[x.to.toNat]? else none)with
  | none=>none
  | some t=>match rec (x.to+1) d (n+1)with
   | none=>none
   | some y=>if y.e≠0 then some y else if x.l.length+y.l.length<=10000 then
     (if n=2 then some ⟨[⟨JI l x.to n,0,⟨#[]⟩,t.at_⟩]++x.l++y.l,y.to,0,0⟩else vZ rec l d n k ⟨[⟨JI l x.to n,0,⟨#[]⟩,t.at_⟩]++x.l++y.l,y.to,0,0⟩)else none
def HJ(l:List bT):Nat->Int->Int->Int->Option fL
 | 0,_,_,_=>none
 | k+1,i,d,n=>if n=5 then pj (HJ l k) l i d else(HJ l k i d (n+1)).bind (vZ (HJ l k) l d n k)
def Zr{n:Int}{k:Nat}{f:Int}(h:(qV n)[k]?=some f):5<=f/\f<=15:=by
 have u:=kO h
 unfold qV at u
 grind
section
variable {rec:Int->Int->Int->Option fL}{l:List bT}{i d n:Int}{r x y:fL}{t:bT}{k:Nat}
theorem Qe(h:pj rec l i d=some r)(u:(l.length:Int)<=i):r=gp l i 6:=by
 unfold pj at h;grind
theorem Na(h:pj rec l i d=some r)(B:¬ (l.length:Int)<=i)(ht:l[i.toNat]?=some t)(u:((Uy l i||tK l i ⟨#[40]⟩)&&decide (d=12))=true):r=gp l i 7:=by
 unfold pj at h;grind
theorem Uz(h:pj rec l i d=some r)(u:¬ (l.length:Int)<=i)(ht:l[i.toNat]?=some t)(E:((Uy l i||tK l i ⟨#[40]⟩)&&decide (d=12))=false)(B:Uy l i=true) :
  ∃x,rec (i+1) (d+1) 5=some x/\x.l.length<=10000/\r=if x.e≠0 then x else {x with l:=[⟨if t.text=⟨#[45]⟩then 3 else 4,0,⟨#[]⟩,t.at_⟩]++x.l}:=by
 unfold pj at h;rw[ej u,ht]at h;dsimp only at h;rw[ej dD,ew B]at h
 cases hr:rec (i+1) (d+1) 5 with
 | none=>grind
 | some x=>
  grind
theorem Nb(h:pj rec l i d=some r)(u:¬ (l.length:Int)<=i)(ht:l[i.toNat]?=some t)(E:((Uy l i||tK l i ⟨#[40]⟩)&&decide (d=12))=false)(G:Uy l i=false)(B:tK l i ⟨#[40]⟩=true) :
  ∃x,rec (i+1) (d+1) 0=some x/\r=if x.e≠0 then x else if tK l x.to ⟨#[41]⟩=true then {x with to:=x.to+1}else gp l x.to 5:=by
 unfold pj at h;rw[ej u,ht]at h;dsimp only at h;rw[ej dD,ej dD,ew B]at h
 cases hr:rec (i+1) (d+1) 0 with
 | none=>grind
 | some x=>grind
theorem Nc(h:pj rec l i d=some r)(u:¬ (l.length:Int)<=i)(ht:l[i.toNat]?=some t)(B:((Uy l i||tK l i ⟨#[40]⟩)&&decide (d=12))=false)(G:Uy l i=false)(E:tK l i ⟨#[40]⟩=false) :
  r=if t.kind=2 then⟨[⟨1,t.n,⟨#[]⟩,t.at_⟩],i+1,0,0⟩else if (decide (t.kind=1)&&gJ t.text)=true then⟨[⟨2,0,t.text,t.at_⟩],i+1,0,0⟩else gp l i 5:=by
 unfold pj at h;grind
theorem Qf(h:vZ rec l d n k x=some r):∃j,k=j+1:=by
 cases k with
 | zero=>cases h
 | succ j=>grind
theorem aec(h:vZ rec l d n (k+1) x=some r)(u:x.e≠0):r=x:=by
 unfold vZ at h;grind
theorem Zs(h:vZ rec l d n (k+1) x=some r)(B:¬ x.e≠0)(u:JI l x.to n=0):r=x:=by
 unfold vZ at h;grind
theorem Zt(h:vZ rec l d n (k+1) x=some r)(B:¬ x.e≠0)(u:¬ JI l x.to n=0):∃t y,0<=x.to/\l[x.to.toNat]?=some t/\rec (x.to+1) d (n+1)=some y/\(y.e≠0->r=y)/\
  (¬ y.e≠0->x.l.length+y.l.length<=10000/\(n=2->r=⟨[⟨JI l x.to n,0,⟨#[]⟩,t.at_⟩]++x.l++y.l,y.to,0,0⟩)/\(¬ n=2->vZ rec l d n k ⟨[⟨JI l x.to n,0,⟨#[]⟩,t.at_⟩]++x.l++y.l,y.to,0,0⟩=some r)):=by
 unfold vZ at h;grind
theorem agT(h:HJ l (k+1) i d 5=some r):pj (HJ l k) l i d=some r:=by grind[pj,HJ]
theorem aq1(h:HJ l (k+1) i d n=some r)(u:¬ n=5):∃x,HJ l k i d (n+1)=some x/\vZ (HJ l k) l d n k x=some r:=by
 unfold HJ at h;rw[ej u]at h
 cases hx:HJ l k i d (n+1)with
 | none=>grind
 | some x=>grind
end
def v8(l:List bT)(i:Int):Option (List cA×Int×Int×Int):=if i<0 then some ([],0,1,0)else(HJ l 10000 i 0 0).bind λx=>
 if x.e≠0 then some ([],0,x.e,x.at_)else match zu x.l,l[i.toNat]? with
  | some t,some k=>if x.l.length<=10000 then(if 12<t.depth then some ([],0,7,k.at_)else if 40<x.l.length then some ([],0,2,k.at_)else some (x.l,x.to,0,0))else none
  | _,_=>none
def Qg(n:Int):(qV n).length<=4:=by
 grind[qV]
def C295(n:Int)(w:World)(hn:0<=n/\n<=4):CR 295 [hZ n] w (λv w'=>lg (bH v (qV n)) w w'):=by
 have u:=St.start w;refine eX Tryz.func295 ?_;refine aZ ([15]:List Int) u cS rfl rfl (dL rfl) (λW _ u=>aZ ([14]:List Int) u cS rfl rfl (dL rfl) λV _ u=>aZ ([10,11,12,13]:List Int) u cS rfl rfl (dL rfl) λOP _ u=>aZ ([5,6]:List Int) u cS rfl rfl (dL rfl) λU _ u=>aZ ([7,8,9]:List Int) u cS rfl rfl (dL rfl) λY _ u=>?_);obtain⟨G,rfl⟩:=u.p4.fI;obtain⟨J,rfl⟩:=u.p3.fI;obtain⟨I,rfl⟩:=u.p2.fI;obtain⟨O,rfl⟩:=u.p1.fI;obtain⟨M,rfl⟩:=u.fI;refine aZ ([G,J,I,O,M]) u GU rfl rfl (dL rfl) (λZ _ u=>?_)
 have u:=(((((((((((u.ack (α:=Int)).p6).p1).Ei).p5).p1).Ei).p4).p1).Ei).p3).p1;have u:=u.Ei.p2.p1.Ei;obtain rfl|rfl|rfl|rfl|rfl:n=0\/n=1\/n=2\/n=3\/n=4:=cK
 .have B:=u.Ax;exact dR u.p1 GU ee ei (λ_ E=>gL u.p1 eg E (show _=some G from rfl) (have u:=u.split;u.fresh))
 .have B:=u.Ax;exact dR u.p1 GU ee ei (λ_ E=>gL u.p1 eg E (show _=some J from rfl) (have u:=u.split.drop.split;u.fresh))
 .have B:=u.Ax;exact dR u.p1 GU ee ei (λ_ E=>gL u.p1 eg E (show _=some I from rfl) (have u:=u.split.drop.split.drop.split;u.fresh))
 .have B:=u.Ax;exact dR u.p1 GU ee ei (λ_ E=>gL u.p1 eg E (show _=some O from rfl) (have u:=u.split.drop.split.drop.split.drop.split;u.fresh))
 have B:=u.Ax;exact dR u.p1 GU ee ei (λ_ E=>gL u.p1 eg E (show _=some M from rfl) (have u:=u.split.drop.split.drop.split.drop.split.drop.split;u.fresh))
def C296(k:Int)(w:World)(M:0<=k/\k<=15):CR 296 [hZ k] w (λv w'=>v=.string (M9 k)/\Ext w w'):=by
 have u:=St.start w;refine eX Tryz.func296 ?_;refine aZ DD u iy rfl rfl (dL rfl) (λG _ u=>?_);have J:DD.length=16:=rfl;obtain⟨I,E⟩:=gx DD (i:=k.toNat) cK;refine dR u iy cK cK (λ_ B=>gL u gv B E ?_);refine⟨?_,u.drop.aG⟩;unfold M9;rw[E];rfl
def C320(lv:Value)(l:List bT)(i e:Int)(w:World)(B:dA (λ_=>True) w lv l)(E:jk l):CR 320 [lv,hZ i,hZ e] w (λv w'=>∃sh:dZ,v=ia sh/\lg (eG λw=>mG w sh (gp l i e)) w w'):=by
 have V:=E.n;have J:l.length<=1000000:=cK
 have I:=E.at_;have u:=St.start w;refine ab3 _ _ _ _ _ ?_;unfold S320;refine aM u tC (λU M u=>have u:=u.enc (cs':=j0 (⟨bX,0,0,0⟩:dZ)) rfl;⟨λO w'=>O=hZ (if (l.length:Int)<=i then 6 else e)/\M=w',aK fK (B.ext u.aG) (cR (aC (λ_=>⟨by rw[ew cK],rfl⟩) λ_=>⟨by rw[ej cK],rfl⟩)),?_⟩);rintro _ _ ⟨rfl,G⟩ _;subst G;exact aV GK u (C214 _ l i _ (B.ext u.aG) J I) (λ_ _ u=>pop (OH _ _) (aJ (x:=(⟨bX,0,(if (l.length:Int)<=i then 6 else e),(nj l i)⟩:dZ)) u fX rfl rfl λ_ u=>aD fX u.At (have u:=u.fy (Φ:=(λw=>mG w (⟨bX,0,(if (l.length:Int)<=i then 6 else e),(nj l i)⟩:dZ) (⟨[],0,(if (l.length:Int)<=i then 6 else e),(nj l i)⟩:fL))) (λ_=>⟨_,rfl,DL.nil _⟩);have u:=u.p1.drop;⟨_,rfl,u.fresh⟩)))
def C294(l:List bT)(rec:Int->Int->Int->Option fL)(lv:Value)(i d:Int)(r:fL)(w:World)(G:dA (λ_=>True) w lv l)(Z:jk l)(HR:ajD l rec)(h0:0<=i/\i<=l.length)(hd:0<=d/\d<=12)(hr:pj rec l i d=some r):CR 294 [lv,hZ i,hZ d] w (λv w'=>∃sh:dZ,v=ia sh/\lg (eG λw=>mG w sh r) w w'):=by
 have Dx:=Z.n;have hn:l.length<=1000000:=cK
 have sy:=Z.at_;have u:=St.start w;refine abZ _ _ _ _ _ ?_;unfold S294;refine aM u tC (λPM _ u=>have u:=u.enc (cs':=j0 (⟨bX,0,0,0⟩:dZ)) rfl;aK fK (G.ext u.aG) (cR (aC (λer=>?_) λer=>?_)))
 .refine dQ Rn (C320 _ l i 6 _ (G.ext u.aG) Z) ?_;rintro _ _ ⟨ajG,rfl,O⟩;have u:=u.made O;obtain⟨Bb,Qh,_⟩:=u.eG;subst Qh;refine aJ (x:=(⟨Bb,(gp l i 6).to,(gp l i 6).e,(gp l i 6).at_⟩:dZ)) u.p1 fX rfl rfl (λ_ u=>aD fX u.At ?_);have I:r=(⟨(gp l i 6).l,(gp l i 6).to,(gp l i 6).e,(gp l i 6).at_⟩:fL):=Qe hr cK;rw[I];have u:=u.p1.dM (Ψ:=(λw=>mG w (⟨Bb,(gp l i 6).to,(gp l i 6).e,(gp l i 6).at_⟩:dZ) (⟨(gp l i 6).l,(gp l i 6).to,(gp l i 6).e,(gp l i 6).at_⟩:fL))) (λ_ h=>⟨_,rfl,lF h⟩)
  have u:=u.p1.drop;exact⟨_,rfl,u.fresh⟩
 obtain⟨t,ht⟩:=gx l (i:=i.toNat) cK;have hta:=sy t (kO ht);refine⟨λW w'=>W=.bool (Uy l i)/\St w bD [bY PM (j0 (⟨bX,0,0,0⟩:dZ))] w',aV vN u (C209 _ l i (kp #[33]) _ (G.ext u.aG) hn) (λ_ _ u=>aY (λiM=>⟨vb (by unfold Uy;rw[iM];rfl),u⟩) λiM=>aV vN u (C209 _ l i (kp #[45]) _ (G.ext u.aG) hn) λ_ _ u=>⟨vb (by unfold Uy;rw[iM];rfl),u⟩),?_⟩;rintro _ _ ⟨rfl,u⟩ _;refine aV vN u (C209 _ l i (kp #[40]) _ (G.ext u.aG) hn) (λ_ he u=>⟨λW w'=>W=.bool ((Uy l i||tK l i (kp #[40]))&&decide (d=12))/\St w bD [bY PM (j0 (⟨bX,0,0,0⟩:dZ))] w',aY (λE=>aH ⟨vb (by first|(rw[E];simp;done)|(rw[E,M];simp;done)|(rw[E];rfl)|(rw[E,M];rfl)),u⟩) (λE=>aY (λM=>aH ⟨vb (by first|(rw[E];simp;done)|(rw[E,M];simp;done)|(rw[E];rfl)|(rw[E,M];rfl)),u⟩) λM=>⟨vb (by first|(rw[E];simp;done)|(rw[E,M];simp;done)|(rw[E];rfl)|(rw[E,M];rfl)),u⟩),?_⟩)
 rintro _ _ ⟨rfl,u⟩ _;refine aY (λU=>?_) (λU=>aY (λE=>?_) λE=>aY (λM=>?_) λM=>?_)
 .refine dQ Rn (C320 _ l i 7 _ (G.ext u.aG) Z) ?_;rintro _ _ ⟨axK,rfl,O⟩;have u:=u.made O;obtain⟨SO,ajH,_⟩:=u.eG;subst ajH;refine aJ (x:=(⟨SO,(gp l i 7).to,(gp l i 7).e,(gp l i 7).at_⟩:dZ)) u.p1 fX rfl rfl (λ_ u=>aD fX u.At ?_);have I:r=(⟨(gp l i 7).l,(gp l i 7).to,(gp l i 7).e,(gp l i 7).at_⟩:fL):=Na hr cK ht U;rw[I];have u:=u.p1.dM (Ψ:=(λw=>mG w (⟨SO,(gp l i 7).to,(gp l i 7).e,(gp l i 7).at_⟩:dZ) (⟨(gp l i 7).l,(gp l i 7).to,(gp l i 7).e,(gp l i 7).at_⟩:fL))) (λ_ h=>⟨_,rfl,lF h⟩)
  have u:=u.p1.drop;exact⟨_,rfl,u.fresh⟩
 .refine aN cK (aN cK ?_);have axL:¬ d=12:=λh=>by rw[E,ez h]at U;cases U
  obtain⟨B,V,hxl,J⟩:=Uz hr cK ht U E;refine dQ afE ((HR _ (i+1) (d+1) 5 B _ (G.ext u.aG) V cK cK cK).2 rfl) ?_;rintro _ _ ⟨axM,rfl,O⟩;have u:=u.made O;obtain⟨DE,ajI,_⟩:=u.eG;subst ajI;refine aM u tC (λBP _ u=>have u:=u.enc (cs':=j0 (⟨bX,0,0,0⟩:dZ)) rfl;aJ (x:=(⟨DE,B.to,B.e,B.at_⟩:dZ)) u fX rfl rfl λw13 u=>aA uC (aB (v:=hZ B.e) jL u.hb rfl (bW (aC (λwU=>?_) λwU=>⟨λW w'=>W=hZ (if t.text=kp #[45]then 3 else 4)/\w13=w',aO fK (G.ext u.aG) cK ht (λ_ AH=>bV t.text nA AH rfl rfl λ_ YV=>aD gv YV (jG (aC (λHc=>⟨by rw[ew Hc],rfl⟩) λHc=>⟨by rw[ej Hc],rfl⟩))),?_⟩))))
  .refine aD fX u.At (aJ (x:=(⟨DE,B.to,B.e,B.at_⟩:dZ)) u.p2 fX rfl rfl λ_ u=>aD fX u.At ?_);have I:r=(⟨B.l,B.to,B.e,B.at_⟩:fL):=J.trans (ew wU);rw[I];have u:=u.p2.dM (Ψ:=(λw=>mG w (⟨DE,B.to,B.e,B.at_⟩:dZ) (⟨B.l,B.to,B.e,B.at_⟩:fL))) (λ_ h=>⟨_,rfl,lF h⟩);have u:=u.p1.drop.p1.drop;exact⟨_,rfl,u.fresh⟩
  rintro _ _ ⟨rfl,hw⟩ _;subst hw;obtain⟨op,agU⟩:∃op,op=(if t.text=kp #[45]then(3:Int)else 4):=⟨_,rfl⟩;rw[<- agU];refine aO fK (G.ext u.aG) cK ht (λ_ Fc=>bV t.at_ lL Fc rfl rfl λ_ LA=>aD bL LA (pop (Ed _ _) (aZ ([(⟨op,0,(kp #[]),t.at_⟩:cA)]) u gV rfl rfl (dL rfl) λs_x66 _ u=>aA se (aB (v:=ia (DE:SV)) ju u.p1.hb rfl ?_))));have ajJ:=(DL.flat (lF u.p2.eG));refine bJ u gV ajJ (by simp;omega) ee (λagG _ u=>aA se ?_);obtain⟨Qi,rfl⟩:=u.fI;refine aT u.p1 ju (dL rfl) (rfl) (λ_ u=>have u:=u.enc (cs':=j0 (⟨Qi,B.to,B.e,B.at_⟩:dZ)) rfl;aD fX u.At (aJ (x:=(⟨Qi,B.to,B.e,B.at_⟩:dZ)) u.p3 fX rfl rfl λ_ u=>aD fX u.At ?_))
  have I:r=(⟨([(⟨op,0,(kp #[]),t.at_⟩:cA)]++B.l),B.to,B.e,B.at_⟩:fL):=by rw[J,ej wU,<- agU]
  rw[I];have u:=u.p2.freeze.dM (Ψ:=(λw=>mG w (⟨Qi,B.to,B.e,B.at_⟩:dZ) (⟨([(⟨op,0,(kp #[]),t.at_⟩:cA)]++B.l),B.to,B.e,B.at_⟩:fL))) (λ_ h=>⟨_,rfl,DL.j1 h⟩);have u:=u.p1.drop.p1.drop.p1.drop;exact⟨_,rfl,u.fresh⟩
 .refine aN cK (aN cK ?_);have axL:¬ d=12:=λh=>by rw[E,M,ez h]at U;cases U
  obtain⟨B,V,J⟩:=Nb hr cK ht U E M;refine dQ Rk ((HR _ (i+1) (d+1) 0 B _ (G.ext u.aG) V cK cK cK).1) ?_;rintro _ _ ⟨axN,rfl,O⟩;have u:=u.made O;obtain⟨Y,ajK,_⟩:=u.eG;subst ajK;refine aM u tC (λWE _ u=>have u:=u.enc (cs':=j0 (⟨bX,0,0,0⟩:dZ)) rfl;aJ (x:=(⟨Y,B.to,B.e,B.at_⟩:dZ)) u fX rfl rfl λ_ u=>aA uC (aB (v:=hZ B.e) jL u.hb rfl (bW (aC (λSP=>?_) λSP=>aA oW (aB (v:=hZ B.to) bL u.hb rfl (aV vN u (C209 _ l B.to (kp #[41]) _ (G.ext u.aG) hn) λ_ he u=>bR (aY (λSQ=>?_) λSQ=>?_)))))))
  .refine aD fX u.At (aJ (x:=(⟨Y,B.to,B.e,B.at_⟩:dZ)) u.p2 fX rfl rfl λ_ u=>aD fX u.At ?_);have I:r=(⟨B.l,B.to,B.e,B.at_⟩:fL):=J.trans (ew SP);rw[I];have u:=u.p2.dM (Ψ:=(λw=>mG w (⟨Y,B.to,B.e,B.at_⟩:dZ) (⟨B.l,B.to,B.e,B.at_⟩:fL))) (λ_ h=>⟨_,rfl,lF h⟩);have u:=u.p1.drop.p1.drop;exact⟨_,rfl,u.fresh⟩
  .refine aA oW (aB (v:=hZ B.to) bL u.hb rfl (dQ Rn (C320 _ l B.to 5 _ (G.ext u.aG) Z) ?_));rintro _ _ ⟨axO,rfl,O⟩;have u:=u.made O;obtain⟨SR,ajL,_⟩:=u.eG;subst ajL;refine aJ (x:=(⟨SR,(gp l B.to 5).to,(gp l B.to 5).e,(gp l B.to 5).at_⟩:dZ)) u.p3 fX rfl rfl (λ_ u=>aD fX u.At ?_);have I:r=(⟨(gp l B.to 5).l,(gp l B.to 5).to,(gp l B.to 5).e,(gp l B.to 5).at_⟩:fL):=J.trans ((ej SP).trans (ej (by simpa using SQ)));rw[I];have u:=u.p1.dM (Ψ:=(λw=>mG w (⟨SR,(gp l B.to 5).to,(gp l B.to 5).e,(gp l B.to 5).at_⟩:dZ) (⟨(gp l B.to 5).l,(gp l B.to 5).to,(gp l B.to 5).e,(gp l B.to 5).at_⟩:fL))) (λ_ h=>⟨_,rfl,lF h⟩)
   have u:=u.p1.drop.p1.drop.p1.drop;exact⟨_,rfl,u.fresh⟩
  refine aA oW (aB (v:=hZ B.to) bL u.hb rfl ?_);have tj:=sQ (l:=l) (i:=B.to) (t:=kp #[41]) (by simpa using SQ);refine aN cK (aA oW (aT u bL (dL rfl) (rfl) λ_ u=>have u:=u.enc (cs':=j0 (⟨Y,(B.to+1),B.e,B.at_⟩:dZ)) rfl;aD fX u.At (aJ (x:=(⟨Y,(B.to+1),B.e,B.at_⟩:dZ)) u.p2 fX rfl rfl λ_ u=>aD fX u.At ?_)));have I:r=(⟨B.l,(B.to+1),B.e,B.at_⟩:fL):=J.trans ((ej SP).trans (ew (by simpa using SQ)));rw[I];have u:=u.p2.dM (Ψ:=(λw=>mG w (⟨Y,(B.to+1),B.e,B.at_⟩:dZ) (⟨B.l,(B.to+1),B.e,B.at_⟩:fL))) (λ_ h=>⟨_,rfl,lF h⟩)
  have u:=u.p1.drop.p1.drop;exact⟨_,rfl,u.fresh⟩
 have XK:=Nc hr cK ht U E M;refine aO fK (G.ext u.aG) cK ht (λ_ ajM=>bV t.kind lK ajM rfl rfl λ_ ajN=>aD bL ajN (aH (aC (λJJ=>?_) λJJ=>⟨λW w'=>W=.bool (decide (t.kind=1)&&gJ t.text)/\St w bD [bY PM (j0 (⟨bX,0,0,0⟩:dZ))] w',aO fK (G.ext u.aG) cK ht (λ_ ajO=>bV t.kind lK ajO rfl rfl λ_ ajP=>aD bL ajP (aH (aC (λzG=>aO fK (G.ext u.aG) cK ht λ_ ajQ=>bV t.text nA ajQ rfl rfl λ_ ajR=>aD gv ajR (aV ur u (C211 _ _ cK) λ_ _ u=>⟨vb (by rw[ez zG];rfl),u⟩)) λzG=>⟨vb (by rw[fN zG];rfl),u⟩))),?_⟩)))
 .refine aO fK (G.ext u.aG) cK ht (λ_ ajS=>bV t.n sd ajS rfl rfl λ_ ajT=>have u:=u.drew;aD bL ajT (aO fK (G.ext u.aG) cK ht λ_ ajU=>bV t.at_ lL ajU rfl rfl λ_ Pc=>aD bL Pc (pop (IT _ _ _) (aN cK (aZ ([(⟨1,t.n,(kp #[]),t.at_⟩:cA)]) u gV rfl rfl (dL rfl) λaxP _ u=>?_)))));obtain⟨SS,rfl⟩:=u.fI;refine pop (zi _ _ _ _) (aJ (x:=(⟨SS,(i+1),0,0⟩:dZ)) u.p1 fX rfl rfl λ_ u=>aD fX u.At ?_);have I:r=(⟨[(⟨1,t.n,(kp #[]),t.at_⟩:cA)],(i+1),0,0⟩:fL):=XK.trans (ew JJ)
  rw[I];have u:=u.p1.freeze.dM (Ψ:=(λw=>mG w (⟨SS,(i+1),0,0⟩:dZ) (⟨[(⟨1,t.n,(kp #[]),t.at_⟩:cA)],(i+1),0,0⟩:fL))) (λ_ h=>⟨_,rfl,DL.j1 h⟩);have u:=u.p1.drop;exact⟨_,rfl,u.fresh⟩
 rintro _ _ ⟨rfl,u⟩ _;refine aY (λQj=>?_) (λQj=>?_)
 .refine aO fK (G.ext u.aG) cK ht (λ_ ajV=>bV t.text nA ajV rfl rfl λ_ ajW=>have u:=u.drew;aD gv ajW (aO fK (G.ext u.aG) cK ht λ_ ajX=>bV t.at_ lL ajX rfl rfl λ_ Pd=>aD bL Pd (pop (IU _ _ _) (aN cK (aZ ([(⟨2,0,t.text,t.at_⟩:cA)]) u gV rfl rfl (dL rfl) λaxQ _ u=>?_)))));obtain⟨SU,rfl⟩:=u.fI;refine pop (zi _ _ _ _) (aJ (x:=(⟨SU,(i+1),0,0⟩:dZ)) u.p1 fX rfl rfl λ_ u=>aD fX u.At ?_);have I:r=(⟨[(⟨2,0,t.text,t.at_⟩:cA)],(i+1),0,0⟩:fL):=XK.trans ((ej JJ).trans (ew Qj))
  rw[I];have u:=u.p1.freeze.dM (Ψ:=(λw=>mG w (⟨SU,(i+1),0,0⟩:dZ) (⟨[(⟨2,0,t.text,t.at_⟩:cA)],(i+1),0,0⟩:fL))) (λ_ h=>⟨_,rfl,DL.j1 h⟩);have u:=u.p1.drop;exact⟨_,rfl,u.fresh⟩
 refine dQ Rn (C320 _ l i 5 _ (G.ext u.aG) Z) ?_;rintro _ _ ⟨atc,rfl,O⟩;have u:=u.made O;obtain⟨Nf,aee,_⟩:=u.eG;subst aee;refine aJ (x:=(⟨Nf,(gp l i 5).to,(gp l i 5).e,(gp l i 5).at_⟩:dZ)) u.p1 fX rfl rfl (λ_ u=>aD fX u.At ?_);have I:r=(⟨(gp l i 5).l,(gp l i 5).to,(gp l i 5).e,(gp l i 5).at_⟩:fL):=XK.trans ((ej JJ).trans (ej (by simpa using Qj)));rw[I];have u:=u.p1.dM (Ψ:=(λw=>mG w (⟨Nf,(gp l i 5).to,(gp l i 5).e,(gp l i 5).at_⟩:dZ) (⟨(gp l i 5).l,(gp l i 5).to,(gp l i 5).e,(gp l i 5).at_⟩:fL))) (λ_ h=>⟨_,rfl,lF h⟩)
 have u:=u.p1.drop;exact⟨_,rfl,u.fresh⟩
end Go.Proofs.YtpdlpabnlkofmaaGreatDoor

/-
  Part 5.
-/
import Derived.Test.YtpdlpabnlkofmaaGreatDoorR8x4
set_option maxHeartbeats 8000000
set_option linter.all false
set_option maxRecDepth 100000
open Go.Fw.Flat renaming val->ia,enc->j0,sz->mI,len->x7,pos->Xb
open ByteArray renaming mk->kh
open List renaming getElem?_eq_some_iff->kp,mem_of_getElem?->kE,take_of_length_le->kO,getElem?_eq_getElem->kX,length_append->la,length_take->l0,length_singleton->mv,getElem?_eq_none->m4,length_map->n0,append_assoc->n3,getD_eq_getElem?_getD->og,length_cons->oE,mem_cons_self->o1,getElem?_map->pd,append_nil->pL,mem_cons_of_mem->qX,replicate->r6,mem_cons->sl,take_add_one->ta,length_eq_zero_iff->uX,range->u3,any_eq_true->xo,foldl_append->D8,getElem?_range->H3,getElem?_drop->Im,range_succ->I5,getElem?_take->KE,flatMap_append->Me
open Nat renaming zero_le->l1,le_refl->o6,le_trans->wS,le_of_ble_eq_true->BM,lt_succ_self->L2,lt_or_ge->Po,mul_pos->abr
open Go.Instr renaming build->l4,sliceAt->n4,sliceBounds->v7,box->zx
open Go.Fw.Deep renaming dr->mh
open Option renaming bind_some->mQ,some->oi,toList_some->Ix
open Go.Value renaming int->ni,slice->yo
open Int renaming toNat_natCast->qa
open Decidable renaming not_not->vh
open Bool renaming true_and->yU,not_false->N8
namespace Go.Proofs.YtpdlpabnlkofmaaGreatDoor
open Go.Fw
def ly(l:List bI)(c:Int):Option Int:=(l.reverse.find? λx=>decide (x.kind=3/\x.cell=c)).map (·.n)
def C307(y sv:Value)(b:Nat)(xs:List bI)(J:Nat->hM)(O:hM)(w:World)(hn:xs.length<=1073741824)
  (B:∀k W,J k W->Cell W b 0 sv/\dC (λ_=>True) W sv xs) (E:J 0 w)
  (U:∀k x W,xs.reverse[k]?=some x->J k W->kI hH y [hZ ((xs.length:Int)-1-k),ia x] W λv I=>(v=.bool true/\J (k+1) I)\/(v=.bool false/\O I)) :
  CR 307 [y,.pointer (some ⟨b,0,none⟩)] w (λ_ W=>J xs.length W\/O W):=by
 refine aca _ _ _ _ ?_;unfold S307;refine bO iO (B 0 w E).1 (aK fT (B 0 w E).2 (fh cK ?_));refine⟨λm x u=>∃k:Nat,x=hZ ((xs.length:Int)-1-k)/\m=xs.length-k/\k<=xs.length/\J k u,⟨_,0,ei,rfl,l1 _,E⟩,?_⟩;rintro m _ u ⟨k,rfl,rfl,hk,M⟩ _;refine cR (aC (λc=>?_) λc=>?_)
 .obtain⟨h1,h2⟩:=B k u M;have nP:k<xs.length:=cK
  have V:xs.reverse[k]?=some (xs[xs.length-1-k]'(cK)):=dD
  refine bO iO h1 (aQ fT h2 cK (x:=xs[xs.length-1-k]'(cK)) (by simp_all) λq Y=>aD iw Y ?_);obtain G:=U k _ u V M;refine kI.mono G ?_;rintro v Z (⟨rfl,B7⟩|⟨rfl,Hr⟩)
  .refine bR (ft (fh cK ?_))
   grind
  refine bR (iz ?_)
  grind
 grind
def C276(sv:Value)(w:World)(h1:wG sv=true):CR 276 [sv] w (λv w'=>∃b,v=.func (.func 307) [].toArray [.pointer (some ⟨b,0,none⟩)].toArray/\lh (bY b [sv]) w w'):=by
 have u:=St.start w;refine fg Tryz.func276 ?_;exact nx u h1 (λb _ u=>⟨b,rfl,u.fresh⟩)
theorem HA{α:Type}{p:α->Bool}{l:List α}{k:Nat}{x:α}(J:∀y∈l.take k,p y=false)(I:l[k]?=some x)(E:p x=true):l.find? p=some x:=by
 rw[List.find?_eq_some_iff_getElem]
 have G:=(kp.1 I)
 obtain⟨B,u⟩:=G
 refine⟨E,k,B,u,λj M=>?_⟩
 have:=J (l[j]'(cK)) (List.mem_take_iff_getElem.2 ⟨j,cK,rfl⟩)
 simp[this]
def C226(p:Nat)(c room:Int)(l:List bI)(w:World)(hb:uf w p room l)(hn:l.length<=1048576) :
  CR 226 [.pointer (some ⟨p,0,none⟩),hZ c] w (λv w'=>v=.tuple #[hZ ((ly l c).getD 0),.bool (ly l c).isSome]/\Ext w w'):=by
 obtain⟨sv,Cz,uW,hL⟩:=hb;have u:=St.start w;refine fg Tryz.func226 ?_;refine nx u rfl (λb3 _ u=>gC u uA rfl λb4 _ u=>gC u Wk rfl λb5 _ u=>aE (aA kR (bO iO (uW.ext u.aG) (dO ani (C276 sv _ hL.one) ?_))));rintro _ _ ⟨b,rfl,cL⟩;have u:=u.made cL
 refine wU (cap:=[.pointer (some ⟨b,0,none⟩)]) (xs:=(u3 l.length).map fun (k:Nat)=>[ni .i64 ((l.length:Int)-1-k),ia ((l.reverse[k]?).getD ⟨0,0,0,0⟩)]) anu u
  (λk M=>M=[bY b [sv],bY b5 [.bool false],bY b4 [hZ 0],bY b3 [hZ c]]/\∀y∈l.reverse.take k,decide (y.kind=3/\y.cell=c)=false)
  (λcd M=>cd=.ret/\∃x,ly l c=some x/\M=[bY b5 [.bool true],bY b4 [hZ x]])
  ⟨rfl,ei⟩ ei ?_ ?_ ?_ ?_ ?_ ?_
 ·
  intro y J Jx W hJ YC TP V;refine(C307 y sv b l J Jx W cK (λk W E=>?_) TP λk x W G E=>?_).mono λ_ _ r=>r.mono λv W' h=>?_
  .obtain⟨Y,M,⟨rfl,_⟩,hS⟩:=hJ k W E;exact⟨hS.p1.hb.cell rfl,hL.ext hS.aG⟩
  .have O:=(kp.1 G).1;rw[List.length_reverse]at O;have:=V k [ni .i64 ((l.length:Int)-1-k),ia x] W (by rw[pd,H3 O];simp[G]) E;exact this
  simpa using h
 ·
  rintro k args Y1 Y2 B Kr M W E ⟨rfl,U⟩ hB hN hR u
  have O:k<l.length:=by
   have:=(kp.1 E).1
   simpa using this
  obtain⟨x,G⟩:∃x,l.reverse[k]?=some x:=⟨_,kX (by simpa using O)⟩
  have ha:args=[ni .i64 ((l.length:Int)-1-k),ia x]:=by
   rw[pd,H3 O]at E;simp[G]at E;exact E.symm
  subst ha;dsimp only[D4];refine aM u rA (λb7 _ u=>Eb u iw rfl ee (by simp[wG,jj]) λ_ u=>?_);refine hB _ _ _ u.p1 (λw8 u=>?_);have e7:jj [ni IntKind.i64 0,hZ 0,hZ 0,hZ 0] 0 [ni .i64 x.kind,hZ x.line,hZ x.cell,hZ x.n]=j0 x:=rfl;refine⟨_,?_,λ_ _ h=>h⟩;refine aA gH (aB bM u.p1.hb rfl (aH ?_))
  have no:¬ (x.kind=3/\x.cell=c)->Kr none w8:=λI=>by
   refine hN _ _ u.p1.drop.p0 ⟨rfl,?_⟩;exact dZ U G (by simpa using I)
  refine aC (λc1=>?_) (λc1=>?_)
  .refine aA my (aB bM u.p1.hb rfl (aB bM u.p5.hb rfl (aH ?_)));intro sY;refine aC (λc2=>aA oW (aB bM u.p1.hb rfl (aT u.p4 bM (BM rfl) rfl λ_ u=>aT u.p4 Ap (BM rfl) rfl λ_ u=>hR _ [bY b5 [.bool true],bY b4 [hZ x.n]] _ u.p5.drop.p4.drop.p3.drop.p2 ⟨rfl,x.n,?_,rfl⟩))) (λc2=>no λI=>c2 I.2);unfold ly;rw[HA U G (by simpa using⟨c1,c2⟩)];rfl
  intro sY;exact ft (no λI=>c1 I.1)
 ·
  rintro D M W ⟨rfl,U⟩ u;refine aT u.p3 bM (BM rfl) rfl (λ_ u=>aT u.p3 Ap (BM rfl) rfl λ_ u=>?_);refine Ej u.p2 (λZ u=>?_);refine aB bM u.p1.hb rfl (aB Ap u.hb rfl ?_)
  have:ly l c=none:=by
   unfold ly
   rw[show l.reverse.find? _=none from List.find?_eq_none.2 λy V=>by
    have:=U y (by rw[kO ei];exact V);simp only[this];exact Bool.false_ne_true]
   rfl
  rw[this];exact⟨rfl,u.aG⟩
 .rintro D M W ⟨_,x,hl,rfl⟩ u;refine Ej u (λZ u=>?_);refine aB bM u.p1.hb rfl (aB Ap u.hb rfl ?_);rw[hl];exact⟨rfl,u.aG⟩
 .rintro id D M W ⟨h,_⟩;cases h
 rintro c M ⟨h,_⟩;exact .inr h
theorem Jy{α:Type}(l:List α)(i:Nat):([]++l.take i)++l.drop (i+1)=l.eraseIdx i:=by
 grind
def Jz{α:Type}{xs ys:List α}{k:Nat}{e f:α}(h:xs.take k=ys.take k)(h1:xs[k]?=some e)(h2:ys[k]?=some f)(u:e=f):xs.take (k+1)=ys.take (k+1):=by
 rw[ta,ta,h,h1,h2,u]
def Uq{α:Type}{xs ys:List α}{k:Nat}{e f:α}(h1:xs[k]?=some e)(h2:ys[k]?=some f)(u:¬ e=f):¬ xs=ys:=by
 grind
theorem PX{l:List bI}{c:Int}{k:Nat}{x:bI}(I:∀y∈l.drop (k+1),¬ (y.kind=3/\y.cell=c))(B:l[k]?=some x)(G:x.kind=3/\x.cell=c):ly l c=some x.n:=by
 unfold ly
 have E:=(kp.1 B).1
 rw[HA (k:=l.length-1-k) (x:=x) ?_ ?_ dD]
 .rfl
 .intro y u
  have:y∈l.drop (k+1):=by
   rw[List.take_reverse]at u
   grind
  grind
 grind
theorem PY{l:List bI}{c:Int}(u:∀y∈l,¬ (y.kind=3/\y.cell=c)):ly l c=none:=by
 grind[ly]
def SE{l:List bI}{c:Int}{k:Nat}{x:bI}(J:∀y∈l.drop (k+1),¬ (y.kind=3/\y.cell=c))(E:l[k]?=some x)(I:¬ (x.kind=3/\x.cell=c)):∀y∈l.drop k,¬ (y.kind=3/\y.cell=c):=by
 intro y u
 obtain⟨B,G⟩:=kp.1 E
 rw[List.drop_eq_getElem_cons B]at u
 grind
def ad1{l:List bI}{i:Int}{k:Nat}{x y:bI}(u:0<=i)(h1:i<l.length)(B:l[i.toNat]?=some x)(I:k<i.toNat)(E:l[k]?=some y)(G:j4 x y=false):rE l i=false:=by
 rw[SB u h1 B]
 have:(l.take i.toNat).any (λy=>!j4 x y)=true:=by
  rw[xo]
  exact⟨y,List.mem_iff_getElem?.2 ⟨k,dD⟩,dD⟩
 grind
def Y3{l:List bI}{i:Int}{x:bI}(u:0<=i)(h1:i<l.length)(E:l[i.toNat]?=some x)(B:∀y∈l.take i.toNat,j4 x y=true):rE l i=true:=by
 grind[rE]
def C49(room:Int)(w:World):CR 49 [hZ room] w (λv w'=>((room<1\/16<room)/\v=.tuple #[.pointer none,hZ 1]/\Ext w w')\/(1<=room/\room<=16/\∃b,v=.tuple #[.pointer (some ⟨b,0,none⟩),hZ 0]/\lh (jl b room []) w w')):=by
 have u:=St.start w;refine fg Tryz.func49 ?_;refine⟨_,?_,λ_ _ h=>h⟩;refine aR (aC (λE=>?_) λE=>?_)
 .intro B;exact iz (.inl ⟨cK,rfl,u.aG⟩)
 refine cO ?_;intro B;exact aC (λ_=>.inl ⟨cK,rfl,u.aG⟩) (λ_=>pop (Wy _) (ny u λb _ u=>have u:=(u.eL (α:=bI)).p1;.inr ⟨cK,cK,b,rfl,(jl.shut u).fresh⟩))
def C58(room:Int)(w:World):CR 58 [hZ room] w (λv w'=>((room<1\/16<room)/\v=.tuple #[.pointer none,hZ 1]/\Ext w w')\/(1<=room/\room<=16/\∃b,v=.tuple #[.pointer (some ⟨b,0,none⟩),hZ 0]/\lh (jl b room []) w w')):=by
 have u:=St.start w;refine fg Tryz.func58 ?_;refine⟨_,?_,λ_ _ h=>h⟩;refine aR (aC (λE=>?_) λE=>?_)
 .intro B;exact iz (.inl ⟨cK,rfl,u.aG⟩)
 refine cO ?_;intro B;exact aC (λ_=>.inl ⟨cK,rfl,u.aG⟩) (λ_=>pop (Wz _) (ny u λb _ u=>have u:=(u.eL (α:=bI)).p1;.inr ⟨cK,cK,b,rfl,(jl.shut u).fresh⟩))
def C71(M U:Value)(xs ys:List Int)(w:World)(E:dC (λ_=>True) w M xs)(V:dC (λ_=>True) w U ys)(hn:xs.length<=1073741824):CR 71 [M,U] w (λv w'=>v=.bool (decide (xs=ys))/\Ext w w'):=by
 have u:=St.start w;refine oM Tryz.func71 (pl:=P71) ?_;refine aK cS (E.ext u.aG) (aK cS (V.ext u.aG) (bV (aC (λ_=>⟨vb (fN (by rintro rfl;omega)).symm,u.aG⟩) λgI=>?_)));refine⟨λm x O=>∃k:Nat,x=hZ (k:Int)/\m=xs.length-k/\k<=xs.length/\xs.take k=ys.take k/\St w aZ [] O,⟨_,0,rfl,rfl,l1 _,rfl,u⟩,?_⟩;rintro m _ O ⟨k,rfl,rfl,hk,I,u⟩ _;refine aK cS (E.ext u.aG) (aR (aC (λjF=>?_) λ_=>⟨vb (ez (by rw[kO cK,kO cK]at I;exact I)).symm,u.aG⟩));obtain⟨lW,B⟩:=gx xs (i:=(k:Int).toNat) cK
 refine aQ cS (E.ext u.aG) cK B (λ_ Y=>have u:=u.drew;aD bM Y ?_);obtain⟨Z,G⟩:=gx ys (i:=(k:Int).toNat) cK;exact aQ cS (V.ext u.aG) cK G (λ_ W=>aD bM W (bV (aC (λJ=>⟨vb (fN (Uq B G J)).symm,u.aG⟩) λJ=>aN cK ⟨xs.length-(k+1),cK,k+1,rfl,rfl,cK,Jz I B G (vh.1 J),u⟩)))
def C229(p:Nat)(c room:Int)(l:List bI)(w:World)(hb:uf w p room l)(hn:l.length<=1073741824):CR 229 [.pointer (some ⟨p,0,none⟩),hZ c] w (λv w'=>v=.tuple #[hZ ((ly l c).getD 0),.bool (ly l c).isSome]/\Ext w w'):=by
 obtain⟨sv,Cz,J,I⟩:=hb;have u:=St.start w;refine abZ _ _ _ _ ?_;unfold S229;refine aE (aA gZ (bO iO (J.ext u.aG) (aK fT (I.ext u.aG) (fh cK ?_))));refine⟨λm x V=>∃k:Nat,x=hZ ((k:Int)-1)/\m=k/\k<=l.length/\(∀y∈l.drop k,¬ (y.kind=3/\y.cell=c))/\St w aZ [] V,⟨_,l.length,rfl,rfl,o6 _,ei,u⟩,?_⟩;rintro k _ V ⟨_,rfl,rfl,hk,G,u⟩ _;refine cR (aC (λjF=>?_) λjF=>?_)
 .refine⟨_,?_,λ_ _ h=>h⟩;refine aE (aA gZ (bO iO (J.ext u.aG) ?_));obtain⟨B,E⟩:=gx l (i:=((k:Int)-1).toNat) cK;refine aQ fT (I.ext u.aG) cK E (λ_ AV=>bW B.kind gH AV rfl rfl λ_ qC=>aD bM qC (aH (aC (λU=>?_) λU=>?_)))
  .refine aE (aA gZ (bO iO (J.ext u.aG) (aQ fT (I.ext u.aG) cK E λ_ Z=>bW B.cell my Z rfl rfl λ_ rh=>aD bM rh (aH ?_))));intro W;refine aC (λO=>?_) (λO=>fh cK ⟨k-1,cK,k-1,by congr 1;omega,rfl,cK,SE (x:=B) (by rw[show k-1+1=k from cK];exact G) (by rw[<- E];congr 1;omega) (λM=>O M.2),u⟩);refine aE (aA gZ (bO iO (J.ext u.aG) (aQ fT (I.ext u.aG) cK E λ_ Y=>bW B.n oW Y rfl rfl λ_ uY=>aD bM uY ?_)))
   rw[PX (k:=k-1) (x:=B) (by rw[show k-1+1=k from cK];exact G) (by rw[<- E];congr 1;omega) ⟨U,O⟩];exact⟨rfl,u.aG⟩
  intro W;exact ft (fh cK ⟨k-1,cK,k-1,by congr 1;omega,rfl,cK,SE (x:=B) (by rw[show k-1+1=k from cK];exact G) (by rw[<- E];congr 1;omega) (λM=>U M.1),u⟩)
 rw[PY (by rw[show k=0 from cK]at G;simpa using G)];exact⟨rfl,u.aG⟩
def C151(p:Nat)(i room:Int)(l:List bI)(w:World)(hb:uf w p room l)(hn:l.length<=1073741824):CR 151 [.pointer (some ⟨p,0,none⟩),hZ i] w (λv w'=>v=.bool (rE l i)/\Ext w w'):=by
 obtain⟨sv,Cz,M,G⟩:=hb;have u:=St.start w;refine oM Tryz.func151 (pl:=auE) ?_;refine⟨_,?_,λ_ _ h=>h⟩;refine aR (aC (λW=>?_) λW=>?_)
 .intro Z;exact iz ⟨vb (lY cK).symm,u.aG⟩
 refine aE (aA gZ (bO iO (M.ext u.aG) (aK fT (G.ext u.aG) (cR ?_))));intro Z;refine aC (λ_=>⟨vb (lY cK).symm,u.aG⟩) (λet=>?_);refine⟨λm x U=>∃k:Nat,x=hZ (k:Int)/\m=i.toNat-k/\(k:Int)<=i/\(∀x y,l[i.toNat]?=some x->y∈l.take k->j4 x y=true)/\St w aZ [] U,⟨_,0,rfl,rfl,cK,ei,u⟩,?_⟩;rintro m _ U ⟨k,rfl,rfl,hk,V,u⟩ _;refine aR (aC (λY=>?_) λY=>⟨vb (Y3 (x:=l[i.toNat]'(cK)) cK cK (kX _) λy B=>V _ y (kX _) (by rw[show k=i.toNat from cK];exact B)).symm,u.aG⟩)
 refine aE (aA gZ (have u:=u.drew;bO iO (M.ext u.aG) ?_));obtain⟨SF,E⟩:=gx l (i:=(i).toNat) cK;refine aQ fT (G.ext u.aG) cK E (λ_ uN=>aD iw uN (aE (aA gZ (bO iO (M.ext u.aG) ?_))));obtain⟨uZ,J⟩:=gx l (i:=(k:Int).toNat) cK;refine aQ fT (G.ext u.aG) cK J (λ_ xt=>aD iw xt (aV am2 u (C222 _ _ _) λ_ he u=>bR (aY (λI=>⟨vb (ad1 cK cK E cK J (by simpa using I)).symm,u.aG⟩) λI=>aN cK ?_)));refine⟨i.toNat-(k+1),cK,k+1,rfl,rfl,cK,λx y O B=>?_,u⟩
 rw[oi.inj (O.symm.trans E)]at *;exact dZ (φ:=λy=>j4 SF y=true) (λy B=>V _ y O B) J (by simpa using I) y B
def C81(p:Nat)(room:Int)(l:List bI)(w:World)(hb:uf w p room l)(hn:l.length<=1048576):CR 81 [.pointer (some ⟨p,0,none⟩)] w (λv w'=>lh (bH v (pD l)) w w'):=by
 have J:=hb;obtain⟨sv,Cz,V,O⟩:=hb;have u:=St.start w;refine fg Tryz.func81 ?_;refine bD ([]:List Int) u cS rfl rfl (dL rfl) (λY E u=>?_);refine⟨λm o x E=>∃k:Nat,x=hZ (k:Int)/\m=l.length-k/\k<=l.length/\St w aZ [bH o (sG l k)] E,⟨_,0,rfl,rfl,l1 _,u⟩,?_⟩;rintro m o _ E ⟨k,rfl,rfl,hk,u⟩ _;have EZ:=Hw l k;refine aE (aA gZ (bO iO (V.ext u.aG) (aK fT (O.ext u.aG) (aR (aC (λU=>⟨_,aV afy u (C151 _ _ _ _ _ (J.ext u.aG) cK) (λ_ Z u=>aY (λG=>?_) λG=>?_),λ_ _ h=>h⟩) λU=>?_)))))
 .refine bD ([(k:Int)]:List Int) u cS rfl rfl (dL rfl) (λW _ u=>?_);have B:=u.dX;refine bJ u.p1 cS B (by simp<;>omega) ee (λM _ u=>?_);have u:=u.p1.drop;intro I;exact aN cK ⟨l.length-(k+1),cK,k+1,rfl,rfl,cK,by rw[Fp G];exact u⟩
 .intro I;exact aN cK ⟨l.length-(k+1),cK,k+1,rfl,rfl,cK,by rw[Hx G];exact u⟩
 rw[Fq l cK]at u;exact u.fresh
def C230(p:Nat)(room:Int)(l:List bI)(x:bI)(F:Nat->Prop)(w:World)(O:(jl p room l).p w F)(V:l.length<=1048576):CR 230 [.pointer (some ⟨p,0,none⟩),ia x] w (λv w'=>v=hZ (MD room l x)/\mR F (jl p room (sH room l x)) w w'):=by
 have u:=St.begin O;obtain⟨sv,u⟩:=u.eh;have u:=u.split;refine oM Tryz.func230 (pl:=auS) ?_;refine cI u (λJ _ u=>aD iw u.At (aV anj u (C277 _ _) λ_ U u=>bR (aY (λB=>?_) λB=>aE (aA gZ (have u:=u.drew;aB iO u.p1.hb rfl (aK fT u.p2.dX (aE (aA Wt (aB bM u.p1.hb rfl (cR (aC (λE=>?_) λE=>?_)))))))))))
 .have u:=u.p2.p2;rw[ME (by simpa using B),MF (by simpa using B)];exact⟨rfl,(jl.shut u).mut⟩
 .have u:=u.p2.p2;rw[Hy (by simpa using B) E,Hz E];exact⟨rfl,(jl.shut u).mut⟩
 refine aE (aA gZ (have u:=u.drew;aB iO u.p1.hb rfl (aD iw u.At (bD ([x]) u fT rfl rfl (dL rfl) λG _ u=>?_))));refine⟨aF iO (u.p2.hb.cell rfl),?_⟩;have M:=u.dX;refine bJ u.p3 fT M (by simp<;>omega) ee (λI _ u=>have u:=u.p1.drop;aE (aA gZ (aT u.p2 iO (dL rfl) u.dX.one λ_ u=>?_)));have u:=u.p1.p1;rw[SC (by simpa using B) E,SD (by simpa using B) E];exact⟨rfl,(jl.shut u).mut⟩
def C165(p:Nat)(room:Int)(l:List bI)(i:Int)(F:Nat->Prop)(w:World)(hF:(jl p room l).p w F)(hn:l.length<=1048576):CR 165 [.pointer (some ⟨p,0,none⟩),hZ i] w (λv w'=>v=.tuple #[ia (dH l i),hZ (xy l i)]/\mR F (jl p room (jU l i)) w w'):=by
 have u:=St.begin hF;obtain⟨sv,u⟩:=u.eh;have u:=u.split;refine abV _ _ _ _ ?_;unfold S165;refine aM u rA (λOY _ u=>?_);refine⟨_,?_,λ_ _ h=>h⟩;refine aR (aC (λjJ=>?_) λjJ=>?_)
 .intro V;refine iz (pop yd (aI (x:=(⟨0,0,0,0⟩:bI)) u iw rfl rfl λZ u=>aD iw u.At ?_));have u:=u.p2.p2;rw[rP (lY cK),yl cK,rQ (lY cK)];exact⟨rfl,(jl.shut u).mut⟩
 refine aE (aA gZ (aB iO u.p1.hb rfl (aK fT u.p2.dX (cR ?_))));intro V;refine aC (λU=>?_) (λU=>aV afy u (C151 _ _ _ _ _ (uf.mk' u.p1.hb u.p2.dX) cK) λ_ he u=>bR (aY (λB=>?_) λB=>?_))
 .refine pop yd (aI (x:=(⟨0,0,0,0⟩:bI)) u iw rfl rfl λZ u=>aD iw u.At ?_);have u:=u.p2.p2;rw[rP (lY cK),yl cK,rQ (lY cK)];exact⟨rfl,(jl.shut u).mut⟩
 .refine pop yd (aI (x:=(⟨0,0,0,0⟩:bI)) u iw rfl rfl λ_ u=>aD iw u.At ?_);have u:=u.p2.p2;rw[rP (by simpa using B),MG cK (by simpa using B),rQ (by simpa using B)];exact⟨rfl,(jl.shut u).mut⟩
 refine aE (aA gZ (aB iO u.p1.hb rfl ?_));obtain⟨G,I⟩:=gx l (i:=(i).toNat) cK;refine dR u.p2 fT cK cK (λ_ W=>gM u.p2 iw W I (aM u rA λPW _ u=>aI (x:=G) u iw rfl rfl λ_ u=>bD ([]:List bI) u fT rfl rfl (dL rfl) λaqG _ u=>aE (aA gZ (aB iO u.p3.hb rfl (l8 fT u.p4.dX cK cK λJ M=>?_)))));have E:=M;refine bJ u fT E (by simp<;>omega) ee (λap2 _ u=>aE (aA gZ (aB iO u.p3.hb rfl (aN cK (BP fT u.p4.dX cK cK λY AS=>?_)))))
 have Qa:=AS;refine bJ u fT Qa (by simp<;>omega) ee (λO _ u=>aE (aA gZ (aT u.p3 iO (dL rfl) u.dX.one λ_ u=>aD iw u.p2.At (aI (x:=G) u.p3 iw rfl rfl λ_ u=>aD iw u.At ?_))));have u:=u.p2.p2;rw[MI (by simpa using B) I,MH (by simpa using B),MJ (by simpa using B),<- Jy,<- show(i+1).toNat=i.toNat+1 from cK];exact⟨rfl,(jl.shut u).mut⟩
structure Mem where
 of:List Int
 dU:List Int
 l:List Int
 kept:List Int
 fK:Int->List km
def fV(of:List Int):Int:=if of.length=0 then 0 else of.getD (of.length-1) 0+1
def nN(k:List Int)(ws:List km):List Int:=ws.foldl (λk w=>k.set w.cell.toNat w.n) k
theorem xA(ws:List km):∀k:List Int,(nN k ws).length=k.length:=by
 induction ws with
 | nil=>intro k;rfl
 | cons x ws u=>simp_all[nN]
theorem Ci(ws:List km)(x:km)(k:List Int):nN k (ws++[x])=(nN k ws).set x.cell.toNat x.n:=by
 unfold nN;grind
theorem HC{ws:List km}{j:Nat}{x:km}{k:List Int}(u:ws[j]?=some x):nN k (ws.take (j+1))=(nN k (ws.take j)).set x.cell.toNat x.n:=by
 rw[ta,u];exact Ci _ _ _
def Gv(m:Mem)(cell:Int):Bool:=decide (0<=cell/\cell<m.l.length)
def fo(m:Mem)(cell n:Int):Mem:=if Gv m cell=true then {m with l:=m.l.set cell.toNat n,fK:=if cell<m.of.length then pP m.fK (m.of.getD cell.toNat 0) (m.fK (m.of.getD cell.toNat 0)++[⟨cell,n⟩])else m.fK}else m
def Ft(m:Mem)(line:Int):Bool:=decide (0<=line/\line<fV m.of)
def n7(m:Mem)(line:Int):Mem:=if Ft m line=true then {m with kept:=nN m.kept (m.fK line),fK:=pP m.fK line []}else m
structure wB(m:Mem):Prop where
 MK:m.of.length<=m.dU.length
 fl:m.dU.length<=20
 ll:m.l.length=m.dU.length
 kl:m.kept.length=m.of.length
 ofr:∀n∈m.of,0<=n/\n<fV m.of
 lb:fV m.of<=20
 pc:∀k,∀x∈m.fK k,0<=x.cell/\x.cell<m.of.length
def MB(m:Mem)(n:Nat):Prop:=∀k,(m.fK k).length<=n
def iN(p:Nat)(ov fv:Value)(m:Mem):HP:=pK λlv=>pK λkv=>pK λpm=>sep (bY p [ov,fv,lv,kv,.map (some pm)]) (sep (bH lv m.l) (sep (bH kv m.kept) (rf pm m.fK)))
def Bc(ov fv:Value)(m:Mem)(w:World):Prop:=dC (λ_=>True) w ov m.of/\dC (λ_=>True) w fv m.dU
def yA(w:World)(p:Nat)(m:Mem):Prop:=∃ov fv lv kv pm,Cell w p 0 ov/\Cell w p 1 fv/\Cell w p 2 lv/\Cell w p 3 kv/\Cell w p 4 (.map (some pm))/\dC (λ_=>True) w ov m.of/\dC (λ_=>True) w fv m.dU/\dC (λ_=>True) w lv m.l/\dC (λ_=>True) w kv m.kept/\vW w pm m.fK
section
variable {w w' w0:World}{A F:Nat->Prop}{R:List HP}{p:Nat}{ov fv lv kv:Value}{m:Mem}{pm:Nat}
theorem yA.ext(h:yA w p m)(e:Ext w w'):yA w' p m:=by
 obtain⟨ov,fv,lv,kv,pm,J,G,B,I,u,E,h1,h2,h3,h4⟩:=h
 exact⟨ov,fv,lv,kv,pm,J.ext e,G.ext e,B.ext e,I.ext e,u.ext e,E.ext e,h1.ext e,h2.ext e,h3.ext e,h4.ext e⟩
theorem yA.mk'(h:mT w p [ov,fv,lv,kv,.map (some pm)])(u:Bc ov fv m w)(h2:dC (λ_=>True) w lv m.l)(h3:dC (λ_=>True) w kv m.kept)(h4:vW w pm m.fK):yA w p m:=
 ⟨ov,fv,lv,kv,pm,h.cell rfl,h.cell rfl,h.cell rfl,h.cell rfl,h.cell rfl,u.1,u.2,h2,h3,h4⟩
theorem iN.open(u:St w0 A (iN p ov fv m::R) w):∃lv kv pm,St w0 A (bY p [ov,fv,lv,kv,.map (some pm)]::bH lv m.l::bH kv m.kept::rf pm m.fK::R) w:=by
 obtain⟨lv,u⟩:=u.eh;obtain⟨kv,u⟩:=u.eh;obtain⟨pm,u⟩:=u.eh
 have h1:=u.split
 have h2:=h1.p1.split
 have h3:=h2.p1.split
 exact⟨lv,kv,pm,h3.p2.p3⟩
theorem iN.shut(u:St w0 A (bY p [ov,fv,lv,kv,.map (some pm)]::bH lv m.l::bH kv m.kept::rf pm m.fK::R) w):St w0 A (iN p ov fv m::R) w:=by
 have h1:St w0 A (sep (bH kv m.kept) (rf pm m.fK)::bY p [ov,fv,lv,kv,.map (some pm)]::bH lv m.l::R) w:=St.join u.p3.p3
 have h2:St w0 A (sep (bH lv m.l) (sep (bH kv m.kept) (rf pm m.fK))::bY p [ov,fv,lv,kv,.map (some pm)]::R) w:=St.join h1.p2
 exact St.ek lv (St.ek kv (St.ek pm (St.join h2.p1)))
theorem JA(u:St w0 A (iN p ov fv m::R) w)(B:Bc ov fv m w):yA w p m:=by
 obtain⟨lv,kv,pm,u⟩:=iN.open u
 exact yA.mk' u.hb B u.p1.dX u.p2.dX u.p3.Xp
end
def C148(p:Nat)(m:Mem)(w:World)(J:yA w p m)(B:wB m):CR 148 [(.pointer (some ⟨p,0,none⟩))] w (λv w'=>v=hZ (fV m.of)/\Ext w w'):=by
 have ML:=J;obtain⟨ov,fv,lv,kv,pm,I,c1,c2,c3,c4,E,Og,hL,M,W⟩:=J;have V:=B.fl;have Z:=B.MK;have BC:=B.ll;have BV:=B.kl;have Y:=B.lb;have u:=St.start w;refine oM Tryz.func148 (pl:=auD) ?_;refine aE (aA wQ (bO eg (I.ext u.aG) (aK cS (E.ext u.aG) (aH (aC (λ_=>⟨gO (ni .i64) (by unfold fV;rw[ew cK]),u.aG⟩) λgE=>aE (aA wQ (have u:=u.drew;bO eg (I.ext u.aG) (aE (aA wQ (bO eg (I.ext u.aG) (aK cS (E.ext u.aG) (fh cK ?_))))))))))));obtain⟨lW,G⟩:=gx m.of (i:=((m.of.length:Int)-1).toNat) cK
 refine aQ cS E cK G (λ_ O=>aD bM (O.ext u.aG) ?_);have U:=B.ofr _ (kE G);exact aN cK ⟨gO (ni .i64) (by unfold fV;rw[ej cK,og,show m.of.length-1=((m.of.length:Int)-1).toNat from cK,G];rfl),u.aG⟩
def C227(p:Nat)(m:Mem)(cell:Int)(w:World)(I:yA w p m)(hk:wB m):CR 227 [(.pointer (some ⟨p,0,none⟩)),hZ cell] w (λv w'=>v=.tuple #[hZ (if Gv m cell=true then m.l.getD cell.toNat 0 else 0),hZ (if Gv m cell=true then 0 else 1)]/\Ext w w'):=by
 have ML:=I;obtain⟨ov,fv,lv,kv,pm,c0,c1,G,c3,c4,hO,Og,E,W,Z⟩:=I;have u:=St.start w;refine fg Tryz.func227 ?_;refine⟨λO w'=>O=.bool (decide (cell<0\/m.l.length<=cell))/\w=w',aR (aC (λ_=>⟨N7 cK,rfl⟩) λ_=>aE (aA r9 (bO eg (G.ext u.aG) (aK cS (E.ext u.aG) (cR ⟨yF cK,rfl⟩))))),?_⟩;rintro _ _ ⟨rfl,U⟩ _;subst U;refine aC (λM=>?_) (λM=>?_)
 .have B:Gv m cell=false:=by unfold Gv;rw[decide_eq_false_iff_not];omega
  rw[B];exact⟨rfl,u.aG⟩
 refine aE (aA r9 (bO eg (G.ext u.aG) ?_));obtain⟨Y,J⟩:=gx m.l (i:=cell.toNat) cK;refine aQ cS E cK J (λ_ V=>aD bM (V.ext u.aG) ?_);have B:Gv m cell=true:=by unfold Gv;rw[decide_eq_true_eq];omega
 rw[B,og,J];exact⟨rfl,u.aG⟩
def C144(p:Nat)(m:Mem)(w:World)(E:yA w p m)(B:wB m):CR 144 [(.pointer (some ⟨p,0,none⟩))] w (λv w'=>lh (bH v m.l) w w'):=by
 have ML:=E;obtain⟨ov,fv,lv,kv,pm,c0,Z,J,c3,c4,W,Og,G,I,O⟩:=E;have M:=B.fl;have V:=B.MK;have Y:=B.ll;have BV:=B.kl;have U:=B.lb;have u:=St.start w;refine fg Tryz.func144 ?_;exact aE (aA r9 (bO eg (J.ext u.aG) (dY OA u (C83 _ _ _ (G.ext u.aG) cK) λ_ _ _ u=>u.fresh)))
def C145(p:Nat)(m:Mem)(w:World)(G:yA w p m)(B:wB m):CR 145 [(.pointer (some ⟨p,0,none⟩))] w (λv w'=>lh (bH v m.kept) w w'):=by
 have ML:=G;obtain⟨ov,fv,lv,kv,pm,c0,Z,c2,I,c4,V,Og,W,E,M⟩:=G;have J:=B.fl;have U:=B.MK;have Y:=B.ll;have BV:=B.kl;have O:=B.lb;have u:=St.start w;refine fg Tryz.func145 ?_;exact aE (aA Ax (bO eg (I.ext u.aG) (dY OA u (C83 _ _ _ (E.ext u.aG) cK) λ_ _ _ u=>u.fresh)))
def C156(p:Nat)(ov fv:Value)(m:Mem)(F:Nat->Prop)(cell n:Int)(w:World)(hF:(iN p ov fv m).p w F)(M:∀w',gv F w w'->Bc ov fv m w')(G:wB m)(hb:MB m 1000000):CR 156 [(.pointer (some ⟨p,0,none⟩)),hZ cell,hZ n] w (λv w'=>v=hZ (if Gv m cell=true then 0 else 1)/\mR F (iN p ov fv (fo m cell n)) w w'):=by
 have u:=St.begin hF;obtain⟨lv,kv,pm,u⟩:=iN.open u;have MM:=G.fl;have Kk:=G.MK;have BC:=G.ll;have BV:=G.kl;have Ob:=G.lb;refine oM Tryz.func156 (pl:=auF) ?_;refine⟨λV w'=>V=.bool (decide (cell<0\/m.l.length<=cell))/\w=w',aR (aC (λ_=>⟨N7 cK,rfl⟩) λ_=>aE (aA r9 (aB eg u.hb rfl (aK cS u.p1.dX (cR ⟨yF cK,rfl⟩))))),?_⟩;rintro _ _ ⟨rfl,hw⟩ _;subst hw;refine aC (λW=>?_) (λW=>?_)
 .have u:=u.p3.p3.p3.p3;have E:Gv m cell=false:=by unfold Gv;rw[decide_eq_false_iff_not];omega
  unfold fo;rw[E];exact⟨rfl,(iN.shut u).mut⟩
 have E:Gv m cell=true:=by unfold Gv;rw[decide_eq_true_eq];omega
 refine aE (aA r9 (aB eg u.hb rfl ?_));obtain⟨SG,Fu⟩:=gx m.l (i:=cell.toNat) cK;refine dR u.p1 cS cK cK (λ_ Ff=>ju _ u.p1 bM Ff cK λ_ u=>⟨λw'=>St w F [iN p ov fv (fo m cell n)] w',aE (aA wQ (aB eg u.p1.hb rfl (aK cS (M _ u.aG).1 (aR (aC (λj9=>?_) λj9=>?_))))),?_⟩)
 .refine aE (aA wQ (aB eg u.p1.hb rfl ?_));obtain⟨I,O⟩:=gx m.of (i:=cell.toNat) cK;refine aQ cS (M _ u.aG).1 cK O (λ_ U=>aD bM U (aE (aA sd (have u:=u.drew;aB yM u.p1.hb rfl (aE (aA sd (aB yM u.p1.hb rfl ?_)))))));have hbx:=hb I;obtain⟨J,u⟩:=u.p3.LP (k:=I);refine⟨_,u.p1.B0 Tryz.underlying185 KX Ay,?_⟩;refine pop (OM _ _) (bD ([(⟨cell,n⟩:km)]) u CC rfl rfl (dL rfl) λZ _ u=>?_);refine⟨aF yM (u.p4.hb.cell rfl),?_⟩;refine⟨aF yM (u.p4.hb.cell rfl),?_⟩
  refine⟨u.p2.B0 Tryz.underlying185 KX Ay,?_⟩;have Y:=u.dX;refine bJ u.p1 CC Y (by simp;omega) ee (λaoK _ u=>?_);have u:=u.p1.drop;refine⟨aF yM (u.p3.hb.cell rfl),?_⟩;obtain⟨Fv,rfl⟩:=u.fJ;have u:=u.p1.p1;refine LQ u Tryz.underlying185 KX (λ_ u=>?_);have u:=u.p3.p2.p3;have B:fo m cell n={m with l:=m.l.set cell.toNat n,fK:=pP m.fK I (m.fK I++[⟨cell,n⟩])}:=by unfold fo;rw[ew E,ew cK,og,O];rfl
  rw[B];exact iN.shut (m:={m with l:=_,fK:=_}) u
 .have u:=u.p3.p3.p2.p3;have B:fo m cell n={m with l:=m.l.set cell.toNat n}:=by unfold fo;rw[ew E,ej cK]
  rw[B];exact iN.shut (m:={m with l:=_,fK:=_}) u
 intro _ u _;exact⟨by rw[E];rfl,u.mut⟩
def SH(m:Mem)(cut:List Int):Bool:=decide ((cut.length:Int)=fV m.of)&&(u3 cut.length).all λi=>decide (0<=cut.getD i 0/\cut.getD i 0<=(m.fK i).length)
def pX(m:Mem)(cut:List Int)(k:Nat):List Int:=(u3 k).foldl (λo (i:Nat)=>nN o ((m.fK i).take (cut.getD i 0).toNat)) m.kept
def fD(m:Mem)(cut:List Int):Option (List Int):=if SH m cut=true then some (pX m cut cut.length)else none
theorem u0(m:Mem)(cut:List Int)(k:Nat):pX m cut (k+1)=nN (pX m cut k) ((m.fK k).take (cut.getD k 0).toNat):=by
 unfold pX;rw[I5,D8];rfl
theorem pe(m:Mem)(cut:List Int):∀k,(pX m cut k).length=m.kept.length
 | 0=>rfl
 | k+1=>by rw[u0,xA,pe]
def MN{m:Mem}{cut:List Int}{k:Nat}{c:Int}(hc:cut[k]?=some c)(h:¬ (0<=c/\c<=(m.fK k).length)):fD m cut=none:=by
 unfold fD;grind[SH,pX]
def MO{m:Mem}{cut:List Int}(h:(cut.length:Int)≠fV m.of):fD m cut=none:=by
 unfold fD SH;grind
def HD{m:Mem}{cut:List Int}(h:(cut.length:Int)=fV m.of)(hc:∀(k:Nat) (c:Int),k<cut.length->cut[k]?=some c->0<=c/\c<=(m.fK k).length):fD m cut=some (pX m cut cut.length):=by
 unfold fD;grind[SH,pX]
def Fx(m:Mem)(n:Nat):List Nat:=(u3 n).map fun (i:Nat)=>(m.fK i).length
theorem Y6{m:Mem}{n i:Nat}(h:i<n):(Fx m n)[i]?=some (m.fK i).length:=by
 unfold Fx;rw[pd,H3 h];rfl
def mJ(m:Mem)(u:List Int):Mem:={m with kept:=u,l:=u++m.dU.drop u.length,fK:=λ_=>[]}
def C157(p:Nat)(ov fv:Value)(m:Mem)(F:Nat->Prop)(line:Int)(w:World)(hF:(iN p ov fv m).p w F)(Y:∀w',gv F w w'->Bc ov fv m w')(B:wB m)(hb:MB m 1000000):CR 157 [(.pointer (some ⟨p,0,none⟩)),hZ line] w (λv w'=>v=hZ (if Ft m line=true then 0 else 1)/\mR F (iN p ov fv (n7 m line)) w w'):=by
 have u:=St.begin hF;obtain⟨lv,kv,pm,u⟩:=iN.open u;have MM:=B.fl;have Kk:=B.MK;have BC:=B.ll;have BV:=B.kl;have Ob:=B.lb;refine oM Tryz.func157 (pl:=auG) ?_;refine⟨λU w'=>U=.bool (decide (line<0\/fV m.of<=line))/\St w F [bY p [ov,fv,lv,kv,.map (some pm)],bH lv m.l,bH kv m.kept,rf pm m.fK] w',aR (aC (λ_=>⟨vb (by first|exact(ez cK).symm|exact ga.2 cK),u⟩) λ_=>aV afx u (C148 _ m _ (yA.mk' u.hb (Y _ u.aG) u.p1.dX u.p2.dX u.p3.Xp) B) λ_ _ u=>cR ⟨vb (by first|exact(ez cK).symm|exact ga.2 cK),u⟩),?_⟩
 rintro _ _ ⟨rfl,u⟩ _;refine aC (λjF=>?_) (λjF=>?_)
 .have u:=u.p3.p3.p3.p3;have G:Ft m line=false:=by unfold Ft;rw[decide_eq_false_iff_not];omega
  unfold n7;rw[G];exact⟨rfl,(iN.shut u).mut⟩
 refine aE (aA sd (aB yM u.hb rfl ?_));obtain⟨J,u⟩:=u.p3.LP (k:=line);refine⟨_,u.p1.B0 Tryz.underlying185 KX Ay,?_⟩;have Hc:=hb line;refine aK CC u.dX ?_;have u:=u.p3.p3.p4.p4.p4;refine⟨λM x w1=>∃k:Nat,x=hZ (k:Int)/\M=(m.fK line).length-k/\k<=(m.fK line).length/\St w F [bH (ia J) (m.fK line),LO pm m.fK line J,bH kv (nN m.kept ((m.fK line).take k)),bY p [ov,fv,lv,kv,.map (some pm)],bH lv m.l] w1,⟨_,0,rfl,rfl,l1 _,u⟩,?_⟩;rintro M _ _ ⟨k,rfl,rfl,xl,u⟩ _;refine aR (aC (λZ=>?_) λZ=>?_)
 .obtain⟨E,I⟩:=gx (m.fK line) (i:=(k:Int).toNat) cK;refine dR u CC cK cK (λ_ W=>?_);have V:=B.pc line _ (kE I);refine gM u RI W I (aM u RJ λO _ u=>aI (x:=E) u RI rfl rfl λ_ u=>aE (aA Ax (have u:=u.drew;aB eg u.p4.hb rfl (aA Lk ?_))));have T0:=xA ((m.fK line).take k) m.kept;refine aB (v:=hZ E.cell) bM u.hb rfl (aA Ll (aB (v:=hZ E.n) bM u.hb rfl ?_));obtain⟨uZ,pb⟩:=gx (nN m.kept ((m.fK line).take k)) (i:=E.cell.toNat) cK
  exact dR u.p3 cS cK cK (λ_ xt=>ju _ u.p3 bM xt cK λ_ u=>aN cK (have u:=u.p1.drop.p4.p4.p2.p4.p4;⟨_,cK,k+1,rfl,rfl,cK,by rw[HC (j:=k) I];exact u⟩))
 rw[kO cK]at u;refine aE (aA sd (aB yM u.p3.hb rfl ?_));have u:=u.p1.p1.Xq;rw[T5]at u;refine LR u rfl Tryz.underlying185 KX (λ_ _ u=>?_);have u:=u.p1.p3.p3;have G:Ft m line=true:=by unfold Ft;rw[decide_eq_true_eq];omega
 have Qb:n7 m line={m with kept:=nN m.kept (m.fK line),fK:=pP m.fK line []}:=by unfold n7;rw[ew G]
 rw[Qb,G];exact⟨rfl,(iN.shut (m:={m with kept:=_,fK:=_}) u).mut⟩
def C150(p:Nat)(m:Mem)(cut:List Int)(cv:Value)(w:World)(hm:yA w p m)(E:wB m)(hb:MB m 1000000)(O:dC (λ_=>True) w cv cut)(Y7:cut.length<=1000):CR 150 [(.pointer (some ⟨p,0,none⟩)),cv] w (λv w'=>(fD m cut=none/\v=.tuple #[.slice none 0 0,hZ 1]/\Ext w w')\/∃lz o,fD m cut=some lz/\v=.tuple #[o,hZ 0]/\lh (bH o lz) w w'):=by
 have ML:=hm;obtain⟨ov,fv,lv,kv,pm,c0,c1,c2,c3,Z,hO,Og,hL,hKp,hP⟩:=hm;have MM:=E.fl;have Kk:=E.MK;have BC:=E.ll;have BV:=E.kl;have Ob:=E.lb;have u:=St.start w;refine fg Tryz.func150 ?_;refine aK cS (O.ext u.aG) (aV afx u (C148 _ m _ (ML.ext u.aG) E) λJ he u=>bV (aC (λ_=>.inl ⟨MO cK,rfl,u.aG⟩) λjr=>dY amR u (C145 _ m _ (ML.ext u.aG) E) λUc _ cL u=>aK cS (O.ext u.aG) ?_));refine⟨λG x J=>∃k:Nat,x=hZ (k:Int)/\G=cut.length-k/\k<=cut.length/\(∀(i:Nat) (c:Int),i<k->cut[i]?=some c->0<=c/\c<=(m.fK i).length)/\St w aZ [bH Uc (pX m cut k)] J,⟨_,0,rfl,rfl,l1 _,λ_ _ h=>absurd h cK,u⟩,?_⟩
 rintro G _ w3 ⟨k,rfl,rfl,xl,Y,u⟩ _;refine aR (aC (λkT=>?_) λ_=>.inr ⟨_,_,HD cK (λi c _ hc=>Y i c cK hc),rfl,by rw[show cut.length=k from cK];exact u.fresh⟩);obtain⟨B,I⟩:=gx cut (i:=(k:Int).toNat) cK;refine aQ cS O cK I (λ_ qC=>aD bM (qC.ext u.aG) ⟨λjv w'=>jv=.bool (decide (B<0\/(m.fK k).length<B))/\w3=w',aR (aC (λ_=>⟨N7 cK,rfl⟩) λ_=>aE (aA sd (bO yM (Z.ext u.aG) (Hj hP u.aG Tryz.underlying185 KX Ay λ_ xt=>aK CC (xt.ext u.aG) (cO ⟨yF cK,rfl⟩))))),?_⟩)
 rintro _ _ ⟨rfl,hw⟩ _;subst hw;refine aC (λ_=>.inl ⟨MN (k:=k) I cK,rfl,u.aG⟩) (λo7=>aE (aA sd (bO yM (Z.ext u.aG) (Hj hP u.aG Tryz.underlying185 KX Ay λagA vY=>?_))));have hbk:=hb k;have N9:((m.fK k).take B.toNat).length<=(m.fK k).length:=by rw[l0];omega
 refine jR CC (vY.ext u.aG) cK cK (λaql PM=>?_);have Jp:=PM _ vY;refine aK CC (Jp.ext u.aG) ?_;refine⟨λG x J=>∃j:Nat,x=hZ (j:Int)/\G=((m.fK k).take B.toNat).length-j/\j<=((m.fK k).take B.toNat).length/\St w aZ [bH Uc (nN (pX m cut k) (((m.fK k).take B.toNat).take j))] J,⟨_,0,rfl,rfl,l1 _,u⟩,?_⟩;rintro G _ _ ⟨j,rfl,rfl,hj,u⟩ _;refine aR (aC (λR7=>?_) λR7=>?_)
 .obtain⟨M,U⟩:=gx ((m.fK (k:Int)).take B.toNat) (i:=(j:Int).toNat) cK;refine aQ CC Jp cK U (λ_ EX=>?_);have hpc:=E.pc k _ (List.mem_of_mem_take (kE U));refine aD RI (EX.ext u.aG) (aM u RJ λW _ u=>aI (x:=M) u RI rfl rfl λ_ u=>aA Lk ?_);have T0:=xA (((m.fK k).take B.toNat).take j) (pX m cut k);have hil:=pe m cut k;refine aB (v:=hZ M.cell) bM u.hb rfl (aA Ll (aB (v:=hZ M.n) bM u.hb rfl ?_));obtain⟨V,axs⟩:=gx (nN (pX m cut k) (((m.fK k).take B.toNat).take j)) (i:=M.cell.toNat) cK
  exact dR u.p1 cS cK cK (λ_ Y8=>ju _ u.p1 bM Y8 cK λ_ u=>aN cK (have u:=u.p1.drop;⟨_,cK,j+1,rfl,rfl,cK,by rw[HC (j:=j) U];exact u⟩))
 rw[kO (i:=j) cK]at u;refine aN cK ⟨_,cK,k+1,rfl,rfl,cK,λi c hi hc=>?_,?_⟩
 .by_cases e:i=k
  .subst e;obtain rfl:=oi.inj (hc.symm.trans I);omega
  exact Y i c cK hc
 rw[u0,og,show cut[k]?=some B from I];exact u
def C86(p:Nat)(ov fv:Value)(m:Mem)(F:Nat->Prop)(cut:List Int)(cv:Value)(w:World)(hF:(iN p ov fv m).p w F)(V:∀w',gv F w w'->Bc ov fv m w')(E:wB m)(hb:MB m 1000000)(hC:∀w',gv F w w'->dC (λ_=>True) w' cv cut)(Y7:cut.length<=1000):CR 86 [(.pointer (some ⟨p,0,none⟩)),cv] w (λv w'=>(fD m cut=none/\v=hZ 1/\mR F (iN p ov fv m) w w')\/∃W,fD m cut=some W/\v=hZ 0/\mR F (iN p ov fv (mJ m W)) w w'):=by
 have u:=St.begin hF;obtain⟨lv,kv,pm,u⟩:=iN.open u;have MM:=E.fl;have Kk:=E.MK;have BC:=E.ll;have Y:=E.kl;have Ob:=E.lb;refine oM Tryz.func86 (pl:=P86) ?_;refine dO amS (C150 _ m cut _ _ (yA.mk' u.hb (V _ u.aG) u.p1.dX u.p2.dX u.p3.Xp) E hb (hC _ u.aG) cK) ?_;rintro O _ M
 rcases M with⟨B,rfl,Z⟩|⟨U,J,B,rfl,cL⟩
 .have u:=u.ext Z;exact aO rfl (aO rfl (bV (j8 ee (have u:=u.p3.p3.p3.p3;.inl ⟨B,rfl,(iN.shut u).mut⟩))))
 have u:=u.made cL;refine aO rfl (aO rfl (bV (fx ee (aE (aA Ax (aT u.p1 eg (dL rfl) u.dX.one λ_ u=>aE (aA r9 (have u:=u.drew;aB eg u.hb rfl (aE (aA Ws (aB eg u.hb rfl ?_)))))))))));refine LS u.p2 cS (V _ u.aG).2 cK (λ_ u=>aE (aA r9 (aB eg u.p1.hb rfl (LS u cS u.p2.dX (by rw[la,List.length_drop];have G:U.length=m.of.length:=(by unfold fD at B;split at B<;>simp at B;rw[<- B,pe];exact Y);omega) λ_ u=>AW (α:=km) u λI _ u=>aE (aA sd (aT u.p2 yM (dL rfl) (rfl) λ_ u=>?_))))))
 have u:=u.p4.drop.p4.drop.p1.p3.p3.p3;have G:U.length=m.of.length:=by unfold fD at B;split at B<;>simp at B;rw[<- B,pe];exact Y
 rw[show m.l.drop m.dU.length=[]from List.drop_eq_nil_of_le cK,pL]at u;exact .inr ⟨_,B,rfl,(iN.shut (m:=mJ m U) u).mut⟩
def JC(of:List Int)(stays:Int)(dU:List Int):Mem:=⟨of.take stays.toNat,dU,dU,dU.take stays.toNat,λ_=>[]⟩
def psM(m:Mem):List Nat:=Fx m (fV m.of).toNat
theorem ad2(m:Mem):(psM m).length=(fV m.of).toNat:=by unfold psM Fx;simp
def rR{m:Mem}(u:wB m):0<=fV m.of:=by
 unfold fV;split
 .omega
 rename_i h
 have B:m.of.getD (m.of.length-1) 0∈m.of:=dD
 have:=(u.ofr _ B).1
 omega
def C53(of dU:List Int)(stays:Int)(av bv:Value)(w:World)(B:dC (λ_=>True) w av of)(I:dC (λ_=>True) w bv dU)(hlen:of.length=dU.length)(MM:of.length<=20)(iV:0<=stays/\stays<=of.length)(Gs:∀(k:Nat) (n:Int),(k:Int)<stays->of[k]?=some n->(n=tI of k\/(0<k/\n=tI of k-1))/\-10<=n/\n<=100):CR 53 [av,hZ stays,bv] w (λv w'=>∃(p:Nat) (ov fv:SV),v=.tuple #[.pointer (some ⟨p,0,none⟩),hZ 0]/\lh (sep (bH (ia ov) (of.take stays.toNat)) (sep (bH (ia fv) dU) (iN p (ia ov) (ia fv) (JC of stays dU)))) w w'):=by
 have u:=St.start w;refine fg Tryz.func53 ?_;refine⟨λU w'=>U=.bool (decide (of.length≠dU.length\/20<of.length\/stays<0\/of.length<stays))/\w=w',aK cS (B.ext u.aG) (aK cS (I.ext u.aG) (bV (aC (λ_=>⟨N7 cK,rfl⟩) λ_=>aK cS (B.ext u.aG) (cO (aC (λ_=>⟨N7 cK,rfl⟩) λ_=>aR (aC (λ_=>⟨N7 cK,rfl⟩) λ_=>aK cS (B.ext u.aG) (cO ⟨yF cK,rfl⟩))))))),?_⟩;rintro _ w1 ⟨rfl,Z⟩ _;subst Z;refine aC (λmf=>absurd mf cK) (λmf=>jR cS (B.ext u.aG) cK cK λs_x34 O=>?_);have Y9:=O _ B
 refine aK cS (Y9.ext u.aG) ?_;refine⟨λmm l x w1=>∃(k:Nat) (last:Int),l=hZ last/\x=hZ (k:Int)/\mm=(of.take stays.toNat).length-k/\k<=(of.take stays.toNat).length/\last=tI of k-1/\-200<=last/\last<=200/\St w aZ [] w1,⟨_,0,-1,rfl,rfl,rfl,l1 _,rfl,cK,cK,u⟩,?_⟩;rintro mm _ _ w2 ⟨k,last,rfl,rfl,rfl,xl,hlast,hl7,hl8,u⟩ _;have N9:(of.take stays.toNat).length=stays.toNat:=by rw[l0];omega
 refine aR (aC (λo7=>?_) λo7=>?_)
 .obtain⟨G,vB⟩:=gx (of.take stays.toNat) (i:=(k:Int).toNat) cK;refine aQ cS Y9 cK vB (λ_ xj=>?_)
  have E:of[k]?=some G:=by
   have J:=vB;rw[KE]at J
   split at J
   .exact J
   .cases J
  obtain⟨hl1,Dk,hl3⟩:=Gs k _ cK E;refine aD bM (xj.ext u.aG) ⟨λU w'=>U=.bool (decide (G≠last+1/\(k=0\/G≠last)))/\w2=w',aN cK (bV (aC (λ_=>aH (aC (λ_=>⟨N7 cK,rfl⟩) λ_=>bV ⟨yF cK,rfl⟩)) λ_=>⟨jvF cK,rfl⟩)),?_⟩;rintro _ _ ⟨rfl,Z⟩ _;subst Z;refine aC (λCF=>absurd CF (by have:=Gs k G cK E;simp;omega)) (λCF=>?_);have hws:tI of (k+1)=G+1:=by unfold tI;rw[ej cK,Nat.add_sub_cancel,og,E];rfl
  exact aN cK ⟨_,cK,k+1,G,rfl,rfl,rfl,cK,cK,cK,cK,u⟩
 refine jR cS (B.ext u.aG) cK cK (λs_x58 W=>?_);have ajo:=W _ B;refine dY OA u (C83 _ _ _ (ajo.ext u.aG) (by first|omega|(rw[l0];omega))) (λx59 _ cL u=>dY OA u (C83 _ _ _ (I.ext u.aG) (by first|omega|(rw[l0];omega))) λx61 _ cL u=>dY OA u (C83 _ _ _ (I.ext u.aG) (by first|omega|(rw[l0];omega))) λx63 _ cL u=>AW (α:=km) u λb_x64 _ u=>?_);obtain⟨ajp,rfl⟩:=u.p3.fJ;obtain⟨ajq,rfl⟩:=u.p2.fJ;obtain⟨axt,rfl⟩:=u.p1.fJ;refine pop (Eh _ _ _ _ _ _ _ _ _ _) (ny u λV _ u=>jR cS (I.ext u.aG) cK cK λagO M=>?_)
 have Y:=M _ I;exact dY OA u (C83 _ _ _ (Y.ext u.aG) (by first|omega|(rw[l0];omega))) (λ_ _ _ u=>aE (aA Ax (aT u.p1 eg (dL rfl) u.dX.one λ_ u=>have u:=iN.shut (m:=JC of stays dU) u.p4.p5.p4.p4.p5.p5;⟨V,ajp,ajq,rfl,(St.join (St.join u.p2).p1).fresh⟩)))
def ad3:List Int->Int->Int
 | [],n=>n
 | c::cs,n=>ad3 cs (BA (BA (n*10000)+c))
def qI(l:List Int)(k:Nat):Int:=ad3 (l.take k) 0
theorem HE:∀(l:List Int) (c n:Int),ad3 (l++[c]) n=BA (BA (ad3 l n*10000)+c)
 | [],_,_=>rfl
 | x::l,c,n=>HE l c _
theorem Fy{l:List Int}{k:Nat}{c:Int}(h:l[k]?=some c):qI l (k+1)=BA (BA (qI l k*10000)+c):=by
 unfold qI;rw[ta,h];exact HE _ _ _
def nd(p q:aS):Bool:=decide (q.kind=p.kind)&&decide (q.t=p.t)&&decide (q.i=p.i)&&decide (p.cut.length=0)
def C154(sv fv:Value)(xs:List aS)(φ:aS->Prop)(g:aS->Bool)(w:World)(hL:DL w sv xs)(hf:tG hH w fv φ g)(hφ:∀x∈xs,φ x)(hn:xs.length<=1073741824):CR 154 [sv,fv] w (λv w'=>v=hZ (sm g xs)/\Ext w w'):=by
 obtain⟨g0,first,cap,rfl,oG,j5⟩:=hf;have u:=St.start w;refine fg Tryz.func154 ?_;obtain⟨M,B,E⟩:=hL.open;have U:=E.1;refine aK gg (B.ext u.aG) ?_;refine⟨λm x O=>∃k:Nat,x=hZ (k:Int)/\m=xs.length-k/\k<=xs.length/\(∀y∈xs.take k,g y=false)/\St w aZ [] O,⟨_,0,rfl,rfl,l1 _,ei,u⟩,?_⟩;rintro m _ O ⟨k,rfl,rfl,hk,I,u⟩ _;refine aR (aC (λjJ=>?_) λ_=>⟨gO (ni .i64) (jh (by rw[kO cK]at I;exact I)).symm,u.aG⟩);obtain⟨ix,V⟩:=gx M (i:=(k:Int).toNat) cK;obtain⟨Y,G⟩:=gx xs (i:=(k:Int).toNat) cK
 obtain⟨Ur,rfl,W⟩:=E.2 _ _ _ V G;refine aQ gg B cK V (λ_ Z=>aD kF (Z.ext u.aG) (gV oG (j5 _ Y O u.aG ⟨Ur,rfl,(W.ext u.aG)⟩ (hφ _ (kE G))) ?_));rintro _ _ ⟨rfl,he⟩;have u:=u.ext he;exact aY (λJ=>⟨gO (ni .i64) (me I G J).symm,u.aG⟩) (λJ=>aN cK ⟨_,cK,k+1,rfl,rfl,cK,dZ I G J,u⟩)
def C89(sv fv:Value)(xs:List aS)(φ:aS->Prop)(g:aS->Bool)(w:World)(G:DL w sv xs)(B:tG hH w fv φ g)(E:∀x∈xs,φ x)(I:xs.length<=1073741824):CR 89 [sv,fv] w (λv w'=>v=.bool (xs.any g)/\Ext w w'):=by
 have u:=St.start w;refine fg Tryz.func89 ?_;exact aV amU u (C154 _ _ _ _ _ _ (G.ext u.aG) (B.ext u.aG) E cK) (λ_ _ u=>cR ⟨vb (kU _ _),u.aG⟩)
def jH(m:Mem)(c:Int):Int:=if Gv m c=true then m.l.getD c.toNat 0 else 0
def agR(p:Nat)(m:Mem)(c:Int)(w:World)(u:yA w p m)(B:wB m):CR 227 [.pointer (some ⟨p,0,none⟩),hZ c] w (λv w'=>v=.tuple #[hZ (jH m c),hZ (if Gv m c=true then 0 else 1)]/\Ext w w'):=C227 p m c w u B
def HF(m:Mem)(c n:Int):(fo m c n).of=m.of:=by unfold fo;grind
def ug(m:Mem)(c n:Int):(fo m c n).dU=m.dU:=by unfold fo;grind
def ad4(m:Mem)(c:Int):(n7 m c).of=m.of:=by unfold n7;grind
def MP(m:Mem)(c:Int):(n7 m c).dU=m.dU:=by unfold n7;grind
def Bc.write{ov fv:Value}{m:Mem}{w:World}{c n:Int}(h:Bc ov fv m w):Bc ov fv (fo m c n) w:=by grind[Bc,fo]
theorem Bc.out{ov fv:Value}{m:Mem}{w:World}{c:Int}(h:Bc ov fv m w):Bc ov fv (n7 m c) w:=by grind[Bc,n7]
def jV(m:Mem)(x:bI):Mem:=if x.kind=3 then fo m x.cell x.n else if x.kind=7 then m else n7 m x.line
def td(t:Int)(x:bI):cB:=if x.kind=3 then⟨12,t,x.cell,x.n,0⟩else if x.kind=7 then⟨14,t,0,0,0⟩else⟨13,t,x.line,0,0⟩
end Go.Proofs.YtpdlpabnlkofmaaGreatDoor
namespace Go.Fw
def nO(F:Nat->Prop)(w0 w':World):Prop:=∀b,F b->w'.heap[b]?=w0.heap[b]?
section
variable {α σ:Type}[Flat σ] [D:Deep α σ] {w w0:World}{A F:Nat->Prop}{L:List HP}{v:Value}{xs:List α}{ts us:List σ}
theorem St.HG{Φ:hM}(B:St w0 A (Fw.eD Φ::L) w):∃F,St w0 A (Fw.eD (nO F w)::L) w/\∀w',nO F w w'->Φ w':=by
 obtain⟨U,F,G,u,J,E,M,I⟩:=B.tW
 exact⟨F,⟨B.aG,U,F,G,⟨λw' h=>h,u.2⟩,J,E,M,I⟩,λw' h=>u.1 w' h⟩
theorem nO.refl(F:Nat->Prop)(w:World):nO F w w:=λ_ _=>rfl
theorem MQ(B:∀x y:σ,j0 x=j0 y->x=y):∀{ts us:List σ},ts.length=us.length->flat ts=flat us->ts=us
 | [],[],_,_=>rfl
 | t::ts,u::us,hl,h=>by
  rw[kM,kM]at h
  have:=List.append_inj h (by rw[x7,x7])
  rw[B _ _ this.1,MQ B dD this.2]
 | [],_::_,hl,_=>by simp at hl
 | _::_,[],hl,_=>by simp at hl
theorem dC.func{S U:Nat->Prop}(E:∀x y:σ,j0 x=j0 y->x=y)(h:dC S w v ts)(O:dC U w v us):ts=us:=by
 obtain⟨a,cap,rfl,hc,h3⟩:=h
 obtain⟨a',CZ,J,W,G⟩:=O
 simp only[yo.injEq]at J
 obtain⟨rfl,I,rfl⟩:=J
 refine MQ E I (List.ext_getElem? λj=>?_)
 have tX:(flat ts).length=(flat us).length:=by rw[dA,dA,I]
 by_cases Z:j<(flat ts).length
 .have B:j<(flat us).length:=cK
  rcases h3 with⟨rfl,_⟩|⟨b,o,rfl,_,h5⟩
  .grind
  rcases G with⟨rfl,_⟩|⟨b',o',M,_,u⟩
  .grind
  simp only[oi.injEq,Addr.mk.injEq,and_true]at M
  obtain⟨rfl,rfl⟩:=M
  have V:=h5 j _ (kX Z)
  have Y:=u j _ (kX B)
  unfold Cell at V Y
  grind
 grind
theorem nO.rd(h:∀w',nO F w w'->DL w' v xs)(J:dC (λ_=>True) w v ts)(hn:ts.length=xs.length):∀w',nO F w w'->dC (λ_=>True) w' v ts:=by
 intro w' U
 have CW:=J
 obtain⟨a,cap,rfl,hc,h3⟩:=J
 rcases h3 with⟨h3,h4⟩|⟨b,o,rfl,h4,h5⟩
 .grind[dC]
 cases ts with
 | nil=>exact⟨_,cap,rfl,hc,.inr ⟨b,o,rfl,λh=>absurd rfl h,λj c B=>by simp[kL]at B⟩⟩
 | cons t ts=>
  by_cases Y:F b
  .exact⟨_,cap,rfl,hc,.inr ⟨b,o,rfl,λ_=>trivial,λj c B=>(h5 j c B).of_eq (U b Y)⟩⟩
  .exfalso
   have h6:DL (ChangeMaps.setBlock w b (.map #[] 0)) (.slice (some ⟨b,o,none⟩) (t::ts).length cap) xs:=h _ λV W=>by
    simp only[ChangeMaps.setBlock];grind
   obtain⟨us,⟨a',CZ,G,_,O⟩,M,_⟩:=h6
   simp only[yo.injEq]at G
   obtain⟨rfl,E,rfl⟩:=G
   have Am:0<(flat us).length:=by rw[dA,<- E];exact abr ei (Xb (α:=σ))
   rcases O with⟨rfl,_⟩|⟨V,o',I,_,Z⟩
   .simp at E
   .simp only[oi.injEq,Addr.mk.injEq,and_true]at I
    obtain⟨rfl,rfl⟩:=I
    have u:=Z 0 _ (kX Am)
    have hb:=(h5 0 _ (kX (by rw[dA];exact abr ei (Xb (α:=σ))))).lt
    unfold Cell World.cell? at u
    dsimp only at u
    rw[kf _ hb]at u
    simp at u
theorem nO.fix(u:∀x y:σ,j0 x=j0 y->x=y)(h:∀w',nO F w w'->DL w' v xs):∃ts:List σ,ts.length=xs.length/\∀w',nO F w w'->dC (λ_=>True) w' v ts/\iq ts xs w':=by
 obtain⟨ts,J,E⟩:=(h w (nO.refl F w)).open
 refine⟨ts,E.1,λw' G=>?_⟩
 have h1:=nO.rd h J E.1 w' G
 obtain⟨us,B,I⟩:=(h w' G).open
 rw[dC.func u h1 B]at *
 grind
end
section
variable {P:Program}{T:Nat}{cx cy:Bool}{a b:Int}{K:Value->Prop}
theorem Za(h:0<=a-b/\a-b<=255)(k:K (.int .u8 (a-b))):eP P (kj .sub T cx cy (.int .u8 a) (.int .u8 b)) K:=
 ⟨_,(show pr P (kj .sub T cx cy (.int .u8 a) (.int .u8 b))=some (.int .u8 (a-b))from by
  show some (ni .u8 (IntKind.u8.wrap (a-b)))=_
  have:IntKind.u8.wrap (a-b)=a-b:=by
   unfold IntKind.wrap;simp[IntKind.bits,IntKind.signed];omega
  rw[this]),k⟩
theorem Ut{src u:TypeId}(h1:P.underlying src=some (.int .u8))(h2:P.underlying u=some (.int .i64))(h:0<=a/\a<=255)(k:K (hZ a)):eP P (convert src u (.int .u8 a)) K:=by
 refine⟨_,?_,k⟩
 unfold convert
 simp only[cX,cZ h1,cZ h2,mQ]
 show some (ni .i64 (IntKind.i64.wrap a))=_
 rw[IntWalk.i64_in _ cK]
end
end Go.Fw
namespace Go.Proofs.YtpdlpabnlkofmaaGreatDoor
open Go.Fw
abbrev PD:=List (Bk×Bool)
def jt(b:Bk)(e:Bool)(p:PD):PD:=match b with
 | .nil=>p
 | .cons x c d r=>(.cons x c d r,e)::p
def gB:PD->PD
 | (.cons _ _ _ r,_)::p=>jt r false p
 | (.nil,_)::p=>p
 | []=>[]
def pf:PD->Option (bQ×Bk×Bk)
 | (.cons x a b _,_)::_=>some (x,a,b)
 | _=>none
def mK(x:bQ)(a:Bk)(p:PD):PD:=if x.n=0 then gB p else jt a false ((.cons {x with n:=x.n-1} a .nil .nil,true)::gB p)
def ky:PD->PD
 | []=>[]
 | (_,e)::p=>if e=true then p else ky p
structure jY where
 names:List ByteArray
 dQ:List Int
 cG:PD
 fault:Int
 buf:List bI
def eI(t:jY)(l:List cA):Int×Bool:=if l.length=0 then(0,true)else((pR t.names t.dQ l).1,decide ((pR t.names t.dQ l).2=0))
def pg(t:jY)(s:ByteArray)(n:Int):jY:={t with dQ:=t.dQ.set (cU t.names s).toNat n}
def qJ(t:jY)(x:bQ)(a b:Bk)(n:Int):jY×Bool:=
 if x.kind=1 then({pg t x.eF n with cG:=gB t.cG},true)
 else if x.kind=11 then({t with cG:=jt (if n=0 then b else a) false (gB t.cG)},true)
 else if x.kind=12 then({t with cG:=mK x a t.cG},true)
 else if x.kind=13 then({t with cG:=ky t.cG},true)
 else if x.kind=14 then(if n=0 then({t with fault:=1},false)else({t with cG:=gB t.cG},true))
 else(t,false)
def qK(t:jY):jY×Bool:=match pf t.cG with
 | none=>(t,false)
 | some (x,a,b)=>if (eI t x.e).2=true/\(eI t x.f).2=true then qJ t x a b (eI t x.e).1 else({t with fault:=2},false)
def te:Nat->jY->Option jY
 | 0,_=>none
 | n+1,t=>if (qK t).2=true then te n (qK t).1 else some (qK t).1
def lZ:Bk->Nat
 | .nil=>0
 | .cons x a b r=>(if x.kind=12 then x.n.toNat*(lZ a+1)else lZ a+lZ b)+lZ r+1
def gW(p:PD):Nat:=(p.map λq=>lZ q.1).sum
theorem pY(q:Bk×Bool)(p:PD):gW (q::p)=lZ q.1+gW p:=by simp[gW]
def C6(φ:bQ->Prop):Bk->Prop
 | .nil=>True
 | .cons x a b r=>φ x/\C6 φ a/\C6 φ b/\C6 φ r
theorem Uu{φ:bQ->Prop}:∀t:Bk,C6 φ t↔∀x∈t.flat,φ x:=by
 intro t
 induction t with
 | nil=>simp[C6,Bk.flat]
 | cons x a b r E B u=>
  simp only[C6,Bk.flat,E,B,u,sl,List.mem_append]
  grind
structure Fz(φ:bQ->Prop)(p:PD):Prop where
 ne:∀q∈p,q.1≠.nil
 st:∀q∈p,q.1.str
 al:∀q∈p,C6 φ q.1
section
variable {φ:bQ->Prop}{p:PD}{b:Bk}{e:Bool}
theorem Fz.tail{q:Bk×Bool}(h:Fz φ (q::p)):Fz φ p:=⟨λq u=>h.ne q (qX _ u),λq u=>h.st q (qX _ u),λq u=>h.al q (qX _ u)⟩
theorem Fz.push(h:Fz φ p)(E:b.str)(B:C6 φ b):Fz φ (jt b e p):=by
 cases b with
 | nil=>exact h
 | cons x c d r=>
  refine⟨?_,?_,?_⟩<;>intro q u<;>rcases sl.1 u with rfl|u
  .intro G;cases G
  .exact h.ne q u
  .exact E
  .exact h.st q u
  .exact B
  .exact h.al q u
theorem Fz.pop(h:Fz φ p):Fz φ (gB p):=by
 match p,h with
 | [],h=>exact h
 | (.nil,_)::p,h=>exact h.tail
 | (.cons x a b r,_)::p,h=>
  have B:=h.st _ (o1 ..)
  have u:=h.al _ (o1 ..)
  exact h.tail.push B.2.2.2.2.2.2 u.2.2.2
theorem Fz.leave:∀{p:PD},Fz φ p->Fz φ (ky p)
 | [],h=>h
 | (_,e)::p,h=>by
  unfold ky;split
  .exact h.tail
  .exact h.tail.leave
theorem HH{x:bQ}{a b:Bk}(h:pf p=some (x,a,b)):∃r e u,p=(.cons x a b r,e)::u:=by
 match p,h with
 | (.cons y c d r,e)::u,h=>cases h;grind
theorem HI(u:Fz φ p)(h:pf p=none):p=[]:=by
 match p,u,h with
 | [],_,_=>rfl
 | (.nil,_)::_,u,_=>exact absurd rfl (u.ne _ (o1 ..))
theorem sJ:gW (jt b e p)=lZ b+gW p:=by
 cases b with
 | nil=>simp[jt,lZ]
 | cons x c d r=>exact pY _ _
theorem MR:∀p:PD,gW (ky p)<=gW p
 | []=>o6 _
 | (b,e)::p=>by
  have:=MR p
  grind[gW,ky]
theorem Uv(h:b≠.nil):1<=lZ b:=by
 cases b with
 | nil=>grind
 | cons x c d r=>unfold lZ;omega
theorem DF(h:Fz φ p):p.length<=gW p:=by
 induction p with
 | nil=>simp
 | cons q p u=>
  have:=Uv (h.ne q (o1 ..))
  have:=u h.tail
  rw[pY,oE];omega
theorem sK{x:bQ}{a b r:Bk}:lZ (.cons x a b r)=(if x.kind=12 then x.n.toNat*(lZ a+1)else lZ a+lZ b)+lZ r+1:=rfl
theorem Qc{x:bQ}{a b r:Bk}{u:PD}(h:p=(.cons x a b r,e)::u):gW (gB p)+1<=gW p:=by
 subst h
 show gW (jt r false u)+1<=_
 rw[sJ,pY,sK];omega
end
structure sL(φ:bQ->Prop)(t:jY):Prop where
 p:Fz φ t.cG
 rl:t.dQ.length=t.names.length
 nb:t.names.length<=1000
 bl:t.buf.length<=1000
 cl:gW t.cG<=10000
structure Uw(cs ls ns:List ByteArray)(x:bQ):Prop where
 k:1<=x.kind/\x.kind<=14
 e:x.e.length<=1000/\x.f.length<=1000
 n:x.kind=12->0<=x.n/\x.n<=1000
 el:¬ x.kind=11->x.eu<=0
 rg:x.kind=1\/x.kind=2\/x.kind=4->0<=cU ns x.eF
 cl:x.kind=2\/x.kind=3\/x.kind=4->0<=cU cs x.name
 lk:x.kind=9\/x.kind=10->0<=cU ls x.name
 nm:(∀y∈x.e,y.name.size<=1000)/\∀y∈x.f,y.name.size<=1000
abbrev ym(cs ls:List ByteArray)(t:jY):Prop:=sL (Uw cs ls t.names) t
section
variable {φ:bQ->Prop}{cs ls:List ByteArray}{t t' tR:jY}{x:bQ}{a b:Bk}{n:Int}{k:Nat}
theorem sL.cG{p:PD}(h:sL φ t)(u:Fz φ p)(hc:gW p<=gW t.cG):sL φ {t with cG:=p}:=⟨u,h.rl,h.nb,h.bl,wS hc h.cl⟩
theorem sL.flt(h:sL φ t)(n:Int):sL φ {t with fault:=n}:=⟨h.p,h.rl,h.nb,h.bl,h.cl⟩
theorem sL.set(h:sL φ t)(s:ByteArray)(n:Int):sL φ (pg t s n):=⟨h.p,by simp[pg,h.rl],h.nb,h.bl,h.cl⟩
theorem sL.top(h:sL φ t)(ht:pf t.cG=some (x,a,b)):φ x/\a.str/\b.str/\C6 φ a/\C6 φ b/\x.body=a.len/\x.eu=b.len/\a.len<=40/\∃r e p,t.cG=(.cons x a b r,e)::p/\r.str/\C6 φ r:=by
 obtain⟨r,e,p,u⟩:=HH ht
 have h1:=h.p
 rw[u]at h1
 obtain⟨U,O,B,W,M,I,J⟩:=h1.st _ (o1 ..)
 obtain⟨Y,E,V,G⟩:=h1.al _ (o1 ..)
 grind
theorem ad5(h:ym cs ls t)(ht:pf t.cG=some (x,a,b)):ym cs ls (qJ t x a b n).1/\(qJ t x a b n).1.names=t.names/\((qJ t x a b n).2=true->gW (qJ t x a b n).1.cG+1<=gW t.cG):=by
 obtain⟨B,V,sb,W,ab,hb,he,T0,r,e,p,I,sr,ar⟩:=h.top ht
 have E:=h.p.pop
 have U:=Qc (r:=r) I
 have u:gW t.cG=lZ (.cons x a b r)+gW p:=by rw[I,pY]
 have M:gB t.cG=jt r false p:=by rw[I];rfl
 have O:gW (gB t.cG)=lZ r+gW p:=by rw[M,sJ]
 rw[sK]at u
 unfold qJ
 split
 .exact⟨(h.set x.eF n).cG E (by show gW (gB t.cG)<=gW t.cG;omega),rfl,λ_=>U⟩
 split
 .rename_i Ui
  rw[ej cK]at u
  have hc:gW (jt (if n=0 then b else a) false (gB t.cG))+1<=gW t.cG:=by rw[sJ];grind
  refine⟨h.cG (Fz.push E ?_ ?_) cK,rfl,λ_=>hc⟩<;>split<;>assumption
 split
 .rename_i Ui
  rw[ew Ui]at u
  have Z:=B.n Ui
  have Lp:=B.el cK
  unfold mK
  split
  .exact⟨h.cG E cK,rfl,λ_=>U⟩
  rename_i Vx
  have J:gW (jt a false ((.cons {x with n:=x.n-1} a .nil .nil,true)::gB t.cG))+1<=gW t.cG:=by
   rw[sJ,pY,sK,ew (by exact Ui),u,O]
   have e:x.n.toNat=(x.n-1).toNat+1:=cK
   rw[e,Nat.succ_mul]
   show lZ a+((x.n-1).toNat*(lZ a+1)+lZ .nil+1+_)+1<=_
   simp only[lZ];omega
  refine⟨h.cG (Fz.push ⟨?_,?_,?_⟩ V W) cK,rfl,λ_=>J⟩<;>intro q G<;>rcases sl.1 G with rfl|G
  .grind
  .exact E.ne q G
  .exact⟨hb,by show x.eu=((0:Nat):Int);omega,T0,l1 _,V,trivial,trivial⟩
  .exact E.st q G
  .exact⟨⟨B.k,B.e,λhk=>⟨dD,dD⟩,B.el,B.rg,B.cl,B.lk,B.nm⟩,W,trivial,trivial⟩
  exact E.al q G
 split
 .have Y:gW (ky t.cG)+1<=gW t.cG:=by
   rw[u,I];unfold ky
   have:=MR p
   grind
  exact⟨h.cG h.p.leave cK,rfl,λ_=>Y⟩
 split
 .split
  .exact⟨h.flt 1,rfl,λhh=>by cases hh⟩
  exact⟨h.cG E cK,rfl,λ_=>U⟩
 grind
theorem DG(h:ym cs ls t):ym cs ls (qK t).1/\(qK t).1.names=t.names/\((qK t).2=true->gW (qK t).1.cG+1<=gW t.cG):=by
 unfold qK
 cases ht:pf t.cG with
 | none=>grind
 | some q=>
  obtain⟨x,a,b⟩:=q
  dsimp only
  split
  .exact ad5 h ht
  .exact⟨h.flt 2,rfl,λu=>by cases u⟩
theorem HJ:∀(n:Nat) {t:jY},ym cs ls t->gW t.cG<n->∃tR,te n t=some tR/\ym cs ls tR/\tR.names=t.names
 | 0,_,_,hc=>by omega
 | n+1,t,h,hc=>by
  obtain⟨h1,h2,h3⟩:=DG h
  unfold te
  split
  .rename_i hs
   have:=h3 hs
   have h4:ym cs ls (qK t).1:=by have:=h1;rw[ym,h2]at this |-;exact this
   obtain⟨tR,E,B,u⟩:=HJ n h4 cK
   exact⟨tR,E,B,u.trans h2⟩
  grind
def goD(t:jY):jY:=(te (gW t.cG+1) t).getD t
theorem qL(h:ym cs ls t):te (gW t.cG+1) t=some (goD t)/\ym cs ls (goD t)/\(goD t).names=t.names:=by
 obtain⟨tR,E,B,u⟩:=HJ (gW t.cG+1) h (L2 _)
 unfold goD
 grind
theorem HK{n:Nat}(h:te n t=some tR):∃k,n=k+1:=by
 cases n with
 | zero=>cases h
 | succ k=>grind
theorem SJ(h:te (k+1) t=some tR)(u:qK t=(t',true)):te k t'=some tR:=by
 unfold te at h;rw[u]at h;exact h
theorem ph(h:te (k+1) t=some tR)(u:qK t=(t',false)):tR=t':=by
 unfold te at h;rw[u]at h;exact(oi.inj h).symm
theorem SK:∀(n:Nat) {t tR:jY},te n t=some tR->ym cs ls t->tR.fault=0->∀x a b,pf tR.cG=some (x,a,b)->(2<=x.kind/\x.kind<=10)/\(eI tR x.e).2=true/\(eI tR x.f).2=true
 | 0,_,_,B,_,_,_,_,_,_=>by cases B
 | n+1,t,tR,B,h,u,x,a,b,ht=>by
  obtain⟨h1,h2,_⟩:=DG h
  unfold te at B
  split at B
  .exact SK n B cK u x a b ht
  .rename_i hs
   cases B
   have hb:(qK t).2=false:=by simpa using hs
   unfold qK at hb u ht
   cases hq:pf t.cG with
   | none=>rw[hq]at ht;dsimp only at ht;rw[hq]at ht;cases ht
   | some q=>
    obtain⟨y,c,d⟩:=q
    rw[hq]at hb u ht
    dsimp only at hb u ht
    have E:=(h.top hq).1.k
    split at hb
    .rename_i hv
     rw[ew hv]at u ht
     unfold qJ at hb u ht
     split at hb
     .cases hb
     rename_i k1
     rw[ej k1]at u ht
     split at hb
     .cases hb
     rename_i k2
     rw[ej k2]at u ht
     split at hb
     .cases hb
     rename_i k3
     rw[ej k3]at u ht
     split at hb
     .cases hb
     rename_i k4
     rw[ej k4]at u ht
     split at hb
     .rename_i k5
      rw[ew k5]at u
      split at hb
      .rename_i k6;rw[ew k6]at u;cases u
      .cases hb
     .rename_i k5
      rw[ej k5]at ht
      rw[hq]at ht;cases ht
      have e:(qK t).1=t:=by unfold qK;rw[hq];dsimp only;rw[ew hv];unfold qJ;rw[ej k1,ej k2,ej k3,ej k4,ej k5]
      rw[e]
      exact⟨cK,hv⟩
    .rename_i hv
     rw[ej hv]at u;cases u
section
variable {e:Int}
theorem Zb(h:x.kind=1):qJ t x a b e=({pg t x.eF e with cG:=gB t.cG},true):=by unfold qJ;grind
theorem JD(h:x.kind=11):qJ t x a b e=({t with cG:=jt (if e=0 then b else a) false (gB t.cG)},true):=by unfold qJ;simp[h]
theorem SL(h:x.kind=12):qJ t x a b e=({t with cG:=mK x a t.cG},true):=by unfold qJ;simp[h]
theorem SM(h:x.kind=13):qJ t x a b e=({t with cG:=ky t.cG},true):=by unfold qJ;simp[h]
theorem MS(h:x.kind=14)(u:e=0):qJ t x a b e=({t with fault:=1},false):=by unfold qJ;grind
theorem MT(h:x.kind=14)(u:¬ e=0):qJ t x a b e=({t with cG:=gB t.cG},true):=by unfold qJ;grind
theorem SN(h1:¬ x.kind=1)(h2:¬ x.kind=11)(h3:¬ x.kind=12)(h4:¬ x.kind=13)(h5:¬ x.kind=14):qJ t x a b e=(t,false):=by grind[qJ]
end
theorem Zc(h:pf t.cG=none):qK t=(t,false):=by unfold qK;rw[h]
theorem Zd(h:pf t.cG=some (x,a,b))(h2:(eI t x.e).2=false):qK t=({t with fault:=2},false):=by unfold qK;grind
theorem Ze(h:pf t.cG=some (x,a,b))(h3:(eI t x.f).2=false):qK t=({t with fault:=2},false):=by unfold qK;grind
theorem Zf(h:pf t.cG=some (x,a,b))(h2:(eI t x.e).2=true)(h3:(eI t x.f).2=true):qK t=qJ t x a b (eI t x.e).1:=by unfold qK;grind
end
def Qd(B:Option Addr)(E u:Nat)(G:Bool):pr hH (l4 143 [(0,.slice B E u),(1,.bool G)].toArray)=some (.agg [.slice B E u,.bool G].toArray):=by kernel_rfl
structure xC where
 l:SV
 JE:Bool
instance:Flat xC where
 agg:=true
 sz:=2
 enc e:=[.slice e.l.a e.l.n e.l.cap,.bool e.JE]
 val e:=.agg [.slice e.l.a e.l.n e.l.cap,.bool e.JE].toArray
 pos:=ee
 len _:=rfl
 one a v h:=by simp at h;rcases h with rfl|rfl<;>rfl
 oH _ _:=rfl
 oI h:=by cases h
variable (w:World) (K:Value->hM)
def S137(I:Value):Prop:=
 aL 193 w λa b=>nC I λc=>fA 138 c 3 λd=>lA 136 d b λe=>lN 136 e λf=>bB .eql 3 f (i 0) λg=>cV g (eP hH (l4 193 [].toArray) λh=>sA 193 a h b λj=>
 lA 193 a j λr=>K (.tuple #[r,(.slice none 0 0),(.slice none 0 0),ff]) j) (nC I λk=>fA 138 k 3 λl=>lA 136 l (drew b) λn=>nC I λo=>fA 138 o 3 λp=>lA 136 p (drew b) λq=>
 lN 136 q λs=>bB .sub 3 s (i 1) λt=>iA 136 n t λu=>fA 143 u 0 λv=>lA 141 v (drew b) λx=>iA 141 x (i 0) λy=>lA 193 y (drew b) λz=>aL 193 (drew b) λG O=>
 sA 193 G z O λB=>fA 193 G 6 λZ=>lA 3 Z B λU=>bC .add 3 (i 1) U λE=>fA 193 G 7 λag=>lA 3 ag B λah=>bA .add 3 E ah λJ=>lA 193 G (drew B) λY=>
 eP hH (n4 141 x (some (i 1)) (some E) (some E)) λV=>eP hH (n4 141 x (some E) (some J) (some J)) λal=>sA 193 a Y (drew B) λM=>
 lA 193 a M λW=>K (.tuple #[W,V,al,tt]) M)
def axv:dI:=λi=>match i with
 | 3=>.run 0 14
 | 7=>.run 0 14
 | _=>.nil
theorem ad7(u:Value)(h:S137 w K u):CR 137 [u] w K:=
 qm 50 axv 60 [.cell 2 193,.tmp 3,.tmp 4,.tmp 5] Tryz.func137 h
def axw:dI:=λi=>match i with
 | 3=>.run 0 14
 | _=>.nil
def S197(B:Value):Prop:=
 kK (λE J a=>∀_:Env,
 eT (λK2=>eP hH (Op.unary .not J) λb=>cV b (nC B λc=>fA 138 c 3 λd=>lA 136 d a λe=>lN 136 e λf=>bB .gtr 3 f (i 0) λg=>K2 g a) (K2 ff a))
 (λh j=>∀_:Env,
 cV h (nC B λk=>fA 138 k 3 λl=>lA 136 l j λn=>lN 136 n λo=>bB .sub 3 o (i 1) λp=>nC B λq=>fA 138 q 3 λr=>lA 136 r j λs=>iA 136 s p λt=>fA 143 t 1 λu=>
 lA 4 u j λv=>nC B λx=>fA 138 x 3 λy=>lA 136 y j λz=>eP hH (n4 136 z none (some p) (some p)) λO=>nC B λG=>fA 138 G 3 λI=>sA 136 I O j λM=>
 E v M) (K (.tuple #[]) j))) (λE=>E ff w)
theorem ad8(u:Value)(h:S197 w K u):CR 197 [u] w K:=
 qm 38 (λ_=>.nil) 0 [] Tryz.func197 h
def S161(u B:Value):Prop:=
 lN 82 B λa=>bB .eql 3 a (i 0) λb=>cV b (K (.tuple #[(i 0),tt]) w) (nC u λc=>fA 138 c 1 λd=>lA 91 d (drew w) λe=>nC u λf=>fA 138 f 2 λg=>lA 41 g (drew w) λh=>
 cF 143 [B,e,h] (drew w) λj k=>xT j 0 λl=>xT j 1 λn=>yE (λE=>bB .neq 31 n (i 0) λo=>cV o (nC u λp=>fA 138 p 4 λq=>sA 3 q (i 2) k λr=>E r) (
 E k)) (λs=>∀_:Env,
 bB .eql 31 n (i 0) λt=>K (.tuple #[l,t]) s))
def axx:dI:=λi=>match i with
 | 3=>.run 0 15
 | _=>.nil
theorem ad9(B u:Value)(h:S161 w K B u):CR 161 [B,u] w K:=
 qm 32 axx 48 [.tmp 4,.tmp 5] Tryz.func161 h
def S117(B:Value):Prop:=
 Ri (λE a=>∀_:Env,
 cF 137 [B] a λb c=>xT b 0 λd=>xT b 1 λe=>xT b 2 λf=>xT b 3 λg=>aL 193 c λh j=>sA 193 h d j λk=>eP hH (Op.unary .not g) λl=>cV l (K (.tuple #[]) k) (
 fA 193 h 3 λn=>lA 82 n k λo=>cF 161 [B,o] k λp q=>xT p 0 λr=>xT p 1 λs=>eP hH (Op.unary .not s) λt=>cV t (K (.tuple #[]) q) (fA 193 h 4 λu=>lA 82 u q λv=>
 cF 161 [B,v] q λx y=>xT x 0 λ_=>xT x 1 λz=>eP hH (Op.unary .not z) λaa=>cV aa (K (.tuple #[]) y) (fA 193 h 0 λV=>lA 3 V y λI=>bB .eql 3 I (i 1) λad=>
 cV ad (nC B λae=>fA 138 ae 2 λU=>lA 41 U (drew y) λO=>nC B λW=>fA 138 W 1 λai=>lA 91 ai (drew y) λaj=>fA 193 h 1 λak=>lA 9 ak (drew y) λal=>
 cF 159 [aj,al] (drew y) λam M=>kA 41 U O M (iA 41 O am λZ=>sA 3 Z r M λap=>cF 164 [B] ap λ_ aq=>E aq)) (bB .eql 3 I (i 11) λar=>cV ar (cF 164 [B] y λ_ G=>
 eT (λK2=>bB .eql 3 r (i 0) λau=>cV au (K2 f G) (K2 e G)) (λJ av=>∀_:Env,
 cF 116 [B,J,ff] av λ_ Y=>E Y)) (bB .eql 3 I (i 12) λax=>cV ax (lA 193 h y λay=>cF 196 [B,ay,e] y λ_ az=>E az) (bB .eql 3 I (i 13) λa0=>cV a0 (cF 197 [B] y λ_ a1=>
 E a1) (bB .eql 3 I (i 14) λa2=>cV a2 (bB .eql 3 r (i 0) λa3=>cV a3 (nC B λa4=>fA 138 a4 4 λa5=>sA 3 a5 (i 1) y λa6=>K (.tuple #[]) a6) (cF 164 [B] y λ_ a7=>
 E a7)) (K (.tuple #[]) y))))))))) (λE=>E w)
def axy:dI:=λi=>match i with
 | 8=>(.of [(0,[]),(1,[]),(2,[]),(3,[]),(4,[]),(5,[]),(6,[]),(7,[]),(8,[]),(9,[]),(11,[]),(10,[3]),(12,[]),(13,[])])
 | _=>.nil
theorem aea(u:Value)(h:S117 w K u):CR 117 [u] w K:=
 qm 83 axy 0 [] Tryz.func117 h
theorem MU:PL 116:=dK Tryz.func116
theorem Zh:PL 137:=dK Tryz.func137
theorem MV:PL 164:=dK Tryz.func164
theorem aqP:PL 196:=dK Tryz.func196
theorem aqQ:PL 197:=dK Tryz.func197
theorem MW:PL 161:=dK Tryz.func161
theorem agT:PL 117:=dK Tryz.func117
theorem agU:PL 141:=dK Tryz.func141
end Go.Proofs.YtpdlpabnlkofmaaGreatDoor
namespace Go.Fw
section
variable {P:Program}{w w0:World}{A S:Nat->Prop}{L:List HP}
theorem zQ{n cap l h m:Nat}{lo hi u:Option Value}(G:lo=none/\l=0\/∃i:Int,lo=some (hZ i)/\0<=i/\l=i.toNat)(I:∃i:Int,hi=some (hZ i)/\0<=i/\h=i.toNat)(M:∃i:Int,u=some (hZ i)/\0<=i/\m=i.toNat)
  (h1:l<=h) (h2:h<=m) (h3:m<=cap):pr P (v7 true n cap lo hi u)=some (l,h,m):=by
 obtain⟨j,rfl,B,rfl⟩:=I
 obtain⟨k,rfl,E,rfl⟩:=M
 rcases G with⟨rfl,rfl⟩|⟨i,rfl,J,rfl⟩<;>simp only[v7,cX,fR,mQ]
 .rw[jn E cK];simp only[mQ];rw[jn B cK];rfl
 rw[jn E cK];simp only[mQ];rw[jn B cK];simp only[mQ];rw[jn J cK];rfl
theorem JF{T E sz J:Nat}{z:Option Nat}{a:Option Addr}{n cap l h m:Nat}{lo hi B:Option Value}(ht:eQ P T=some (E,sz,J,z))
  (hb:pr P (v7 true n cap lo hi B)=some (l,h,m)) :
  pr P (n4 T (.slice a n cap) lo hi B)=some (.slice (if m=l then a else a.map (·.add (l*sz))) (h-l) (m-l)):=by
 obtain⟨u,M,G,I,_⟩:=fp ht
 unfold n4
 rw[cX,cZ u]
 simp only[mQ]
 unfold Instr.slice
 rw[cX,cZ u]
 simp only[mQ]
 rw[cX,hb]
 simp only[mQ]
 rw[cX,mU G,I]
 rfl
variable {α:Type}[Flat α] {xs:List α}
theorem dC.aqR{v:Value}{a:Option Addr}{n cap l h:Nat}(G:v=.slice a n cap)(M:dC S w v xs)(h1:l<=h)(h2:h<=xs.length) :
  dC S w (.slice (if h=l then a else a.map (·.add (l*mI α))) (h-l) (h-l)) ((xs.take h).drop l):=by
 obtain⟨W,V,O,U,h3⟩:=M
 rw[O]at G
 simp only[yo.injEq]at G
 obtain⟨rfl,Y,rfl⟩:=G
 have hlen:((xs.take h).drop l).length=h-l:=by simp;omega
 rcases h3 with⟨I,Z⟩|⟨b,o,rfl,h4,h5⟩
 .subst I
  exact⟨_,h-l,by rw[hlen],ei,.inl ⟨ei,by simp at h2;omega⟩⟩
 refine⟨_,h-l,by rw[hlen],by rw[hlen];exact o6 _,.inr ?_⟩
 have J:(xs.take h).drop l≠[]->xs≠[]:=λE B=>E (by rw[B];simp)
 by_cases E:h=l
 .rw[ew E]
  refine⟨b,o,rfl,λB=>h4 (J B),λj c u=>?_⟩
  have:((xs.take h).drop l)=[]:=by rw[<- uX,hlen];omega
  rw[this]at u;simp[kL]at u
 rw[ej E]
 refine⟨b,o+l*mI α,by simp[gF],λB=>h4 (J B),λj c u=>?_⟩
 rw[GX,GW,Im,KE]at u
 split at u
 .have:=h5 _ c u
  rwa [show o+(l*mI α+j)=o+l*mI α+j from cK]at this
 cases u
theorem MX{T E I:Nat}{z:Option Nat}{v:Value}{i j:Int}{K:Value->Prop}(ht:eQ P T=some (E,mI α,I,z))(J:dC S w v xs)
  (G:0<=i) (h1:i<=j) (h2:j<=xs.length) (k:∀B,(∀w' (ys:List α),dC S w' v ys->dC S w' B ((ys.take j.toNat).drop i.toNat))->K B):eP P (n4 T v (some (hZ i)) (some (hZ j)) (some (hZ j))) K:=by
 obtain⟨a,cap,rfl,M,h3⟩:=J
 refine⟨_,JF ht (zQ (.inr ⟨i,rfl,G,rfl⟩) ⟨j,rfl,cK,rfl⟩ ⟨j,rfl,cK,rfl⟩ cK (o6 _) cK),k _ λw' ys u=>u.aqR rfl cK ?_⟩
 obtain⟨_,_,h4,_⟩:=u
 grind
theorem FA{T E I:Nat}{z:Option Nat}{v:Value}{i:Int}{K:Value->Prop}(ht:eQ P T=some (E,mI α,I,z))(J:dC S w v xs)
  (G:0<=i) (h2:i<=xs.length) (k:∀B,(∀w' (ys:List α),dC S w' v ys->dC S w' B (ys.drop i.toNat))->K B):eP P (n4 T v (some (hZ i)) none none) K:=by
 obtain⟨a,cap,rfl,O,h3⟩:=J
 refine⟨_,wI ht (ou (.inr ⟨i,rfl,G,rfl⟩) (.inl ⟨rfl,rfl⟩) cK cK),k _ λw' ys u=>?_⟩
 have M:ys.length=xs.length:=by
  obtain⟨_,_,h4,_⟩:=u
  grind
 have:=u.cut rfl (show i.toNat<=ys.length by omega) (o6 _)
 grind
theorem CM{T E V:Nat}{z:Option Nat}{v:Value}{i:Int}{K:Value->Prop}(ht:eQ P T=some (E,mI α,V,z))
  (I:St w0 A (bH v xs::L) w) (J:0<=i) (h1:i<=xs.length) (k:∀M,St w0 A (bH M (xs.take i.toNat)::L) w->K M):eP P (n4 T v none (some (hZ i)) (some (hZ i))) K:=by
 obtain⟨a,cap,u,Al,_⟩:=I.dX
 refine⟨_,(by rw[u];exact JF ht (zQ (.inl ⟨rfl,rfl⟩) ⟨i,rfl,J,rfl⟩ ⟨i,rfl,J,rfl⟩ (l1 _) (o6 _) cK)),k _ ?_⟩
 refine I.rz λF B=>?_
 rcases B with⟨G,U,W⟩|⟨b,CZ,rest,Y,hb,Z,B⟩
 .rw[G]at u
  subst U
  simp only[yo.injEq]at u
  obtain⟨rfl,_,rfl⟩:=u
  have hi:i.toNat=0:=by simp at h1;omega
  refine⟨F,.inl ⟨?_,ei,W⟩,λb hb=>.inl hb,gv.refl _ _⟩
  rw[hi];rfl
 rw[Y]at u
 simp only[yo.injEq]at u
 obtain⟨rfl,_,rfl⟩:=u
 have O:(xs.take i.toNat).length=i.toNat:=by rw[l0];omega
 refine⟨F,.inr ⟨b,i.toNat,flat (xs.drop i.toNat)++rest,?_,?_,⟨cK,?_⟩,B⟩,λb hb=>.inl hb,gv.refl _ _⟩
 .rw[O]
  simp[gF]
 .rw[<- n3,<- gG,List.take_append_drop];exact hb
 rw[la,dA,O];omega
end
end Go.Fw
namespace Go.Proofs.YtpdlpabnlkofmaaGreatDoor
open Go.Fw
def rn(K:hM)(sv:SV)(rows:List bE)(l:List bQ)(w:World):Prop:=(∀w',K w'->iq rows l w')/\(K w->dC (λ_=>True) w (ia sv) rows)
abbrev PE:=List (xC×List bE)
def DH(K:hM)(w:World):PE->PD->Prop
 | [],[]=>True
 | e::es,q::p=>(e.1.JE=q.2/\rn K e.1.l e.2 q.1.flat w)/\DH K w es p
 | _,_=>False
def Oh(es:PE):List xC:=(es.map Prod.fst).reverse
theorem Zi(e:xC×List bE)(es:PE):Oh (e::es)=Oh es++[e.1]:=by simp[Oh]
theorem rF(es:PE):(Oh es).length=es.length:=by simp[Oh]
theorem DH.len{K:hM}{w:World}:∀{es:PE}{p:PD},DH K w es p->es.length=p.length
 | [],[],_=>rfl
 | e::es,q::p,h=>by have:=DH.len h.2;simp[this]
 | [],_::_,h=>h.elim
 | _::_,[],h=>h.elim
def eR(K Φ:hM)(p:Nat)(room:Int)(t:jY):HP:=pK λu:Nat=>pK λB:SV=>pK λrg=>pK λpl=>pK λes:PE=>fact (∀w,K w->dC (λ_=>True) w (ia B) t.names)
 (sep (bY p [.pointer (some ⟨u,0,none⟩),ia B,rg,pl,hZ t.fault]) (sep (jl u room t.buf) (sep (bH rg t.dQ) (sep (bH pl (Oh es)) (eD λw=>DH K w es t.cG/\Φ w)))))
abbrev rG(K:hM)(p:Nat)(room:Int)(t:jY):HP:=eR K (λ_=>True) p room t
section
variable {w w0:World}{A:Nat->Prop}{R:List HP}{p:Nat}{K Φ Ψ:hM}{room:Int}{t:jY}
theorem sM{H1 H2 u B E:HP}(G:St w0 A (sep H1 (sep H2 (sep u (sep B E)))::R) w):St w0 A (H1::H2::u::B::E::R) w:=by
 have h1:=G.split
 have h2:=h1.p1.split
 have h3:=h2.p1.split
 have h4:=h3.p1.split
 exact h4.p2.p3.p4
theorem sN{H1 H2 u B E:HP}(G:St w0 A (H1::H2::u::B::E::R) w):St w0 A (sep H1 (sep H2 (sep u (sep B E)))::R) w:=by
 have h4:=St.join G.p4.p4
 have h3:=St.join h4.p3
 have h2:=St.join h3.p2
 exact St.join h2.p1
abbrev Bd(u:Nat)(B:SV)(rg pl:Value)(f:Int):List Value:=[.pointer (some ⟨u,0,none⟩),ia B,rg,pl,.int .i64 f]
theorem eR.open(u:St w0 A (eR K Φ p room t::R) w):∃B E rg pl es,(∀w,K w->dC (λ_=>True) w (ia E) t.names)/\
  St w0 A (bY p (Bd B E rg pl t.fault)::jl B room t.buf::bH rg t.dQ::bH pl (Oh es)::eD (λw=>DH K w es t.cG/\Φ w)::R) w:=by
 obtain⟨B,u⟩:=u.eh;obtain⟨E,u⟩:=u.eh;obtain⟨rg,u⟩:=u.eh;obtain⟨pl,u⟩:=u.eh;obtain⟨es,u⟩:=u.eh;obtain⟨G,u⟩:=u.mz
 exact⟨B,E,rg,pl,es,G,sM u⟩
theorem eR.shut{u:Nat}{B:SV}{rg pl:Value}{es:PE}(G:∀w,K w->dC (λ_=>True) w (ia B) t.names)
  (E:St w0 A (bY p (Bd u B rg pl t.fault)::jl u room t.buf::bH rg t.dQ::bH pl (Oh es)::eD (λw=>DH K w es t.cG/\Φ w)::R) w):St w0 A (eR K Φ p room t::R) w:=
 St.ek u (St.ek B (St.ek rg (St.ek pl (St.ek es (St.oy G (sN E))))))
theorem eR.mono(u:St w0 A (eR K Φ p room t::R) w)(h:∀w,Φ w->Ψ w):St w0 A (eR K Ψ p room t::R) w:=by
 obtain⟨G,I,rg,pl,es,E,u⟩:=eR.open u
 have h1:=u.p4.dN (Ψ:=λw=>DH K w es t.cG/\Ψ w) λw B=>⟨B.1,h w B.2⟩
 exact eR.shut E h1.p4.p4.p4.p4
theorem eR.now(u:St w0 A (eR K Φ p room t::R) w):Φ w:=by
 obtain⟨B,G,rg,pl,es,E,u⟩:=eR.open u
 exact u.p4.eD.2
theorem eR.rd(h:Has (eR K Φ p room t) w):∃B E rg pl es,(∀w,K w->dC (λ_=>True) w (ia E) t.names)/\mT w p (Bd B E rg pl t.fault)/\uf w B room t.buf/\dC (λ_=>True) w rg t.dQ/\dC (λ_=>True) w pl (Oh es)/\DH K w es t.cG/\Φ w:=by
 obtain⟨F,u⟩:=h.st
 obtain⟨B,E,rg,pl,es,G,u⟩:=eR.open u
 exact⟨B,E,rg,pl,es,G,u.hb,DE u.p1,u.p2.dX,u.p3.dX,u.p4.eD.1,u.p4.eD.2⟩
theorem ji{E:bE}{x:bQ}(h:mh w E x):∃u B:SV,E=⟨x.kind,x.eF,x.name,u,B,x.n,x.body,x.eu,x.at_⟩/\dC (λ_=>True) w (ia u) x.e/\dC (λ_=>True) w (ia B) x.f:=by
 obtain⟨u,B,h1,h2,h3⟩:=h
 exact⟨u,B,h1,DL.flat h2,DL.flat h3⟩
theorem iq.cut{rows:List bE}{l:List bQ}{i j:Nat}(h:iq rows l w):iq ((rows.take j).drop i) ((l.take j).drop i) w:=(h.take j).drop i
theorem apN{x:bQ}{a b r:Bk}(h:(Bk.cons x a b r).str){j:Int}(B:j=1+x.body):(((Bk.cons x a b r).flat.take j.toNat).drop (1:Int).toNat)=a.flat:=by
 obtain⟨E,_⟩:=h
 have u:=a.cY
 rw[vu _ (a:=1) (c:=(1:Int).toNat) (n:=a.flat.length) cK rfl]
 show(a.flat++(b.flat++r.flat)).take _=_
 grind
theorem apO{x:bQ}{a b r:Bk}(h:(Bk.cons x a b r).str){i j:Int}(hi:i=1+x.body)(E:j=1+x.body+x.eu):(((Bk.cons x a b r).flat.take j.toNat).drop i.toNat)=b.flat:=by
 obtain⟨G,B,_⟩:=h
 have u:=a.cY
 have lb:=b.cY
 rw[vu _ (a:=1+a.flat.length) (n:=b.flat.length) cK cK,<- List.drop_drop]
 show((a.flat++(b.flat++r.flat)).drop _).take _=_
 grind
theorem rn.cut{sv u:SV}{rows:List bE}{l:List bQ}{i j:Nat}(h:rn K sv rows l w)(hc:∀w' (ys:List bE),dC (λ_=>True) w' (ia sv) ys->dC (λ_=>True) w' (ia u) ((ys.take j).drop i)):rn K u ((rows.take j).drop i) ((l.take j).drop i) w:=
 ⟨λw' B=>iq.cut (h.1 w' B),λB=>hc _ _ (h.2 B)⟩
theorem rn.WM{sv u:SV}{rows:List bE}{l:List bQ}{i:Nat}(h:rn K sv rows l w)(hc:∀w' (ys:List bE),dC (λ_=>True) w' (ia sv) ys->dC (λ_=>True) w' (ia u) (ys.drop i)):rn K u (rows.drop i) (l.drop i) w:=
 ⟨λw' B=>(h.1 w' B).drop i,λB=>hc _ _ (h.2 B)⟩
theorem DH.top{es:PE}{q:Bk×Bool}{p:PD}(h:DH K w es (q::p)):∃sv rows u,es=(⟨sv,q.2⟩,rows)::u/\rn K sv rows q.1.flat w/\DH K w u p:=by
 match es,h with
 | [],h=>exact h.elim
 | e::es,h=>
  obtain⟨⟨sv,B⟩,rows⟩:=e
  obtain⟨⟨h1,h2⟩,h3⟩:=h
  grind
theorem DH.cons{sv:SV}{e:Bool}{rows:List bE}{es:PE}{q:Bk×Bool}{p:PD}(h:DH K w ((⟨sv,e⟩,rows)::es) (q::p)):rn K sv rows q.1.flat w/\DH K w es p:=⟨h.1.2,h.2⟩
theorem FB{e:xC×List bE}{es:PE}:(Oh (e::es))[es.length]?=some e.1:=by grind[Oh]
theorem SO{e:xC×List bE}{es:PE}:(Oh (e::es)).take es.length=Oh es:=by grind[Oh]
end
theorem C116(K Φ:hM)(p:Nat)(room:Int)(t:jY)(F:Nat->Prop)(lv:SV)(rows:List bE)(b:Bk)(e:Bool)(w:World)(U:(eR K Φ p room t).p w F)(E:∀w',gv F w w'->K w')(G:∀w,Φ w->rn K lv rows b.flat w)(oG:t.cG.length<=100000) :
    CR 116 [.pointer (some ⟨p,0,none⟩),ia lv,.bool e] w (λv w'=>v=.tuple #[]/\mR F (eR K Φ p room {t with cG:=jt b e t.cG}) w w'):=by
 have u:=St.begin U;refine fg Tryz.func116 ?_;obtain⟨J,M⟩:=G _ (eR.now u);have hlen:=(J _ (E _ u.aG)).1;refine aK fq (M (E _ u.aG)) (cO (aC (λc=>?_) λc=>?_));rotate_left
 .have hb:b=.nil:=by
   cases b with
   | nil=>rfl
   | cons y a B r=>simp[Bk.flat]at hlen;omega
  subst hb;exact⟨rfl,u.mut⟩
 obtain⟨y,a,B,r,rfl⟩:=Bk.Dy (t:=b) cK;obtain⟨Y,Z,rg,pl,es,V,u⟩:=eR.open u;have Lp:=u.p4.eD.1.len;refine aE (aA jO (aB rY u.hb rfl (pop (Qd lv.a lv.n lv.cap e) (bD ([(⟨lv,e⟩:xC)]) u uE rfl rfl (dL rfl) λI _ u=>?_))));have O:=u.dX;refine bJ u.p4 uE O (by rw[rF];simp;omega) ee (λW _ u=>have u:=u.p1.drop;aE (aA jO (aT u.p1 rY (dL rfl) u.dX.one λ_ u=>?_)));have u:=u.p4.dN (Ψ:=λw=>DH K w ((⟨lv,e⟩,rows)::es) ((.cons y a B r,e)::t.cG)/\Φ w) (λw h=>⟨⟨⟨rfl,G w h.2⟩,h.1⟩,h.2⟩)
 have u:=u.p2;rw[<- Zi (⟨lv,e⟩,rows) es]at u;have u:=eR.shut (Φ:=Φ) (t:={t with cG:=(.cons y a B r,e)::t.cG}) V u.p1.p1.p4.p4.p4;exact⟨rfl,u.mut⟩
def C164(K Φ:hM)(p:Nat)(room:Int)(t:jY)(F:Nat->Prop)(y:bQ)(a b r:Bk)(e:Bool)(E:PD)(w:World)(hF:(eR K Φ p room t).p w F)(W:∀w',gv F w w'->K w')(Bz:t.cG=(.cons y a b r,e)::E)(iV:(Bk.cons y a b r).str)(oG:t.cG.length<=100000) :
   CR 164 [.pointer (some ⟨p,0,none⟩)] w (λv w'=>v=.tuple #[]/\mR F (eR K Φ p room {t with cG:=gB t.cG}) w w'):=by
 have V:gB t.cG=jt r false E:=by rw[Bz];rfl
 have Y:E.length<=100000:=dD
 have u:=St.begin hF;refine oM Tryz.func164 (pl:=axw) ?_;obtain⟨bp,nv,rg,pl,es,hk,u⟩:=eR.open u;have B:=u.p4.eD.1;rw[Bz]at B;obtain⟨sv,rows,J,rfl,⟨yW,CW⟩,_⟩:=B.top;have Lp:=B.len;rw[oE,oE]at Lp;have PK:=yW _ (W _ u.aG);have Gw:=PK.1;have tX:=(Bk.cons y a b r).cY
 change rows.length=(Bk.cons y a b r).flat.length at Gw
 obtain⟨Kj,hb2,hb3,hb4,_⟩:=id iV;simp only[Bk.len]at tX;obtain⟨t0,Z⟩:∃t0,rows[(0:Int).toNat]?=some t0:=⟨_,kX (by simp;omega)⟩;obtain⟨ge,gf,rfl,_,_⟩:=ji (PK.2 0 _ y Z rfl);refine aE (aA jO (aB rY u.hb rfl (aK uE u.p3.dX ?_)));rw[rF,oE];refine fh cK ?_;rw[show((J.length+1:Nat):Int)-1=(J.length:Int)from cK];refine aE (aA jO (aB rY u.hb rfl (aQ uE u.p3.dX cK (by rw[qa];exact FB) λq hq=>bW sv Lg hq rfl rfl λq2 Gc=>aD jP Gc (aE (aA jO (aB rY u.hb rfl (have u:=u.p3;CM uE u cK (by rw[rF,oE];omega) λs25 u=>?_)))))))
 rw[qa,SO]at u;refine aE (aA jO (aT u.p1 rY (dL rfl) u.dX.one λ_ u=>?_));have u:=u.drew.p4;rw[Bz]at u;have u:=u.dN (Ψ:=λw=>DH K w J E/\(Φ w/\rn K sv rows (Bk.cons y a b r).flat w)) (λ_ h=>⟨h.1.2,h.2,h.1.1.2⟩);have I:=u.eD.2.2.2 (W _ u.aG);have u:=eR.shut (Φ:=λw=>Φ w/\rn K sv rows (Bk.cons y a b r).flat w) (t:={t with cG:=E}) hk u.p2.p4.p4.p4;refine aQ fq I cK Z (λq3 U=>bW y.body iY U rfl rfl λq4 M=>aD bM M (aN cK (aQ fq I cK Z λq5 hq5=>bW y.eu iI hq5 rfl rfl λq6 O=>aD bM O (aN cK (FA fq I cK cK λs40 G=>?_)))))
 obtain⟨axC,rfl⟩:=(G _ _ I).fJ;refine bF MU u (H':=λ_=>eR K (λw=>Φ w/\rn K sv rows (Bk.cons y a b r).flat w) p room {t with cG:=jt r false E}) (Φ:=λ_ _=>True) (λF2 ef dW=>?_) ?_
 .refine(C116 K _ p room {t with cG:=E} F2 axC (rows.drop (1+y.body+y.eu).toNat) r false _ ef (λw' hc=>W w' (dW w' hc).aG) (λw h=>?_) Y).mono λ_ _ r=>r.mono λ_ _ h=>⟨trivial,h.2⟩;have:=h.2.WM G;rw[Bk.ais iV rfl]at this;exact this
 rintro _ _ _ u;rw[<- V]at u;exact⟨rfl,(eR.mono u λ_ h=>h.1).mut⟩
theorem C137(K:hM)(p:Nat)(t:jY)(bp:Nat)(nv:SV)(rg pl:Value)(es:PE)(φ:bQ->Prop)(w:World)(sO:mT w p (Bd bp nv rg pl t.fault))(Uz:dC (λ_=>True) w pl (Oh es))(JG:DH K w es t.cG)
   (hw:∀w',Ext w w'->K w') (B:Fz φ t.cG) (hl:t.cG.length<=100000):CR 137 [.pointer (some ⟨p,0,none⟩)] w (λv w'=>Ext w w'/\((pf t.cG=none/\v=.tuple #[ia (⟨0,⟨#[]⟩,⟨#[]⟩,bX,bX,0,0,0,0⟩:bE),.slice none 0 0,.slice none 0 0,.bool false])\/
    ∃x a b xv av bv ra rb,pf t.cG=some (x,a,b)/\v=.tuple #[ia (xv:bE),ia (av:SV),ia (bv:SV),.bool true]/\(∀w',K w'->mh w' xv x)/\∀M,DH K M es t.cG->rn K av ra a.flat M/\rn K bv rb b.flat M)):=by
 have U:=sO.cell (o:=3) rfl;have J:=JG.len;have u:=St.start w;refine ad7 _ _ _ ?_;unfold S137;refine aM u jy (λb2 _ u=>have u:=u.enc (cs':=j0 (⟨0,⟨#[]⟩,⟨#[]⟩,bX,bX,0,0,0,0⟩:bE)) rfl;aE (aA jO (bO rY (U.ext u.aG) (aK uE (Uz.ext u.aG) ?_))));rw[rF];refine aH (aC (λc=>?_) λc=>?_)
 .have Of:t.cG=[]:=uX.1 cK;exact pop (v:=ia (⟨0,⟨#[]⟩,⟨#[]⟩,bX,bX,0,0,0,0⟩:bE)) (by kernel_rfl) (aI (x:=(⟨0,⟨#[]⟩,⟨#[]⟩,bX,bX,0,0,0,0⟩:bE)) u eM rfl rfl λ_ u=>aD eM u.At ⟨u.drop.aG,.inl ⟨by rw[Of];rfl,rfl⟩⟩)
 obtain⟨cG,W⟩:∃q,q=t.cG:=⟨_,rfl⟩;rw[<- W]at JG B J hl |-;cases cG with
 | nil=>exact absurd (show((es.length:Nat):Int)=0 by have h0:es.length=0:=J;omega) c
 | cons q p'=>
 obtain⟨q1,e⟩:=q;cases q1 with
 | nil=>exact absurd rfl (B.ne _ (o1 ..))
 | cons y a b r=>
 have iV:=B.st _ (o1 ..);obtain⟨sv,rows,Ux,rfl,⟨yW,CW⟩,_⟩:=JG.top;have PK:=yW _ (hw _ (Ext.refl _));have Gw:=PK.1;have tX:=(Bk.cons y a b r).cY
 change rows.length=(Bk.cons y a b r).flat.length at Gw
 obtain⟨Kj,hb2,hb3,hb4,_⟩:=id iV;simp only[Bk.len]at tX;rw[oE]at J c;rw[oE]at J hl;obtain⟨t0,Y⟩:∃t0,rows[(0:Int).toNat]?=some t0:=⟨_,kX (by simp;omega)⟩;obtain⟨ge,gf,rfl,_,_⟩:=ji (PK.2 0 _ y Y rfl);have G:=CW (hw _ (Ext.refl _));have u:=u.drew;refine aE (aA jO (bO rY (U.ext u.aG) (aE (aA jO (bO rY (U.ext u.aG) (aK uE (Uz.ext u.aG) ?_))))));rw[rF,oE];refine fh cK ?_;rw[show((Ux.length+1:Nat):Int)-1=(Ux.length:Int)from cK];refine aQ uE (Uz.ext u.aG) cK (by rw[qa];exact FB) (λq hq=>bW sv Lg hq rfl rfl λq2 Gc=>aD jP Gc (aQ fq (G.ext u.aG) cK Y λq3 O=>aD eM O (aM u jy λb7 _ u=>aI (x:=(⟨y.kind,y.eF,y.name,ge,gf,y.n,y.body,y.eu,y.at_⟩:bE)) u eM rfl rfl λ_ u=>aA iY (aB (v:=hZ y.body) bM u.hb rfl (aN cK (aA iI (aB (v:=hZ y.eu) bM u.hb rfl (aN cK ?_))))))))
 have u:=u.drew;refine aD eM u.At (MX fq (G.ext u.aG) cK cK cK λs44 I=>?_);obtain⟨V,rfl⟩:=(I _ _ G).fJ;refine MX fq (G.ext u.aG) cK cK cK (λs49 E=>?_);obtain⟨Z,rfl⟩:=(E _ _ G).fJ;refine aI (x:=(⟨y.kind,y.eF,y.name,ge,gf,y.n,y.body,y.eu,y.at_⟩:bE)) u.p1 eM rfl rfl (λ_ u=>aD eM u.At ?_);refine⟨u.drop.drop.aG,.inr ⟨y,a,b,_,V,Z,(rows.take (1+y.body).toNat).drop (1:Int).toNat,(rows.take (1+y.body+y.eu).toNat).drop (1+y.body).toNat,rfl,rfl,λw' hk=>(yW w' hk).2 0 _ y Y rfl,λM h2=>?_⟩⟩;have h3:=h2.cons.1
 refine⟨?_,?_⟩
 .have:=h3.cut I;rw[apN iV rfl]at this;exact this
 have:=h3.cut E;rw[apO iV rfl rfl]at this;exact this
theorem C197(K Φ:hM)(p:Nat)(room:Int)(t:jY)(F:Nat->Prop)(w:World)(hF:(eR K Φ p room t).p w F)(hK:∀w',gv F w w'->K w')(oG:t.cG.length<=100000) :
   CR 197 [.pointer (some ⟨p,0,none⟩)] w (λv w'=>v=.tuple #[]/\mR F (eR K Φ p room {t with cG:=ky t.cG}) w w'):=by
 have u:=St.begin hF;refine ad8 _ _ _ ?_;unfold S197;refine⟨λm ev O=>∃(E:Bool) (B:PD),ev=.bool E/\m=B.length+(if E then 0 else 1)/\B.length<=100000/\ky t.cG=(if E=true then B else ky B)/\St w F [eR K Φ p room {t with cG:=B}] O,⟨_,false,t.cG,rfl,rfl,oG,rfl,u⟩,?_⟩;rintro m _ O ⟨E,B,rfl,rfl,W,I,u⟩ _;obtain⟨bp,nv,rg,pl,es,V,u⟩:=eR.open u;have G:=u.p4.eD.1;have U:=G.len
 change es.length=B.length at U
 refine⟨λjv w'=>jv=.bool (!E&&decide (0<B.length))/\w'=O,?_,?_⟩
 .refine bR ?_;cases E with
  | true=>exact ft ⟨rfl,rfl⟩
  | false=>
   refine iz (aE (aA jO (aB rY u.hb rfl (aK uE u.p3.dX ?_))));rw[rF];refine cO ?_;exact⟨vb (by rw[N8,yU];exact ga.2 cK),rfl⟩
 rintro _ _ ⟨rfl,rfl⟩ _;refine aY (λc=>?_) (λc=>?_);rotate_left
 .have hd:ky t.cG=B:=by
   rw[I];cases E with
   | true=>rfl
   | false=>
    have:B=[]:=uX.1 (by have:=g6 (by simpa only[N8,yU]using c);omega);rw[this];rfl
  rw[hd];exact⟨rfl,(eR.shut (t:={t with cG:=B}) V u).mut⟩
 rw[Bool.and_eq_true,Bool.not_eq_true',decide_eq_true_eq]at c;obtain⟨rfl,Am⟩:=c;cases B with
 | nil=>simp at Am
 | cons q J=>
 obtain⟨q1,e⟩:=q;obtain⟨sv,rows,M,rfl,_,_⟩:=G.top;rw[oE,oE]at U;rw[oE]at W;refine aE (aA jO (aB rY u.hb rfl (aK uE u.p3.dX ?_)));rw[rF,oE];refine fh cK ?_;rw[show((M.length+1:Nat):Int)-1=(M.length:Int)from cK];refine aE (aA jO (aB rY u.hb rfl (aQ uE u.p3.dX cK (by rw[qa];exact FB) λq hq=>bW e Wn hq rfl rfl λq2 Z=>aD Ap Z (aE (aA jO (aB rY u.hb rfl (have u:=u.p3;CM uE u cK (by rw[rF,oE];omega) λY u=>?_)))))))
 rw[qa,SO]at u;refine aE (aA jO (aT u.p1 rY (dL rfl) u.dX.one λ_ u=>have u:=u.p4.dN (Ψ:=λw=>DH K w M J/\Φ w) (λ_ h=>⟨h.1.2,h.2⟩);have u:=eR.shut (Φ:=Φ) (t:={t with cG:=J}) V u.p2.p4.p4.p4;⟨_,?_,e,J,rfl,rfl,cK,?_,u⟩))
 .show J.length+(if e=true then 0 else 1)<J.length+1+1
  split<;>omega
 rw[I];rfl
def C161(K Φ:hM)(p:Nat)(room:Int)(t:jY)(F:Nat->Prop)(lv:Value)(xs:List cA)(w:World)(U:(eR K Φ p room t).p w F)(J:∀w',gv F w w'->K w')(G:dC (λ_=>True) w lv xs)(O:xs.length<=1048576)(M:t.names.length<=1048576) :
   CR 161 [.pointer (some ⟨p,0,none⟩),lv] w (λv w'=>v=.tuple #[hZ (eI t xs).1,.bool (eI t xs).2]/\mR F (eR K Φ p room {t with fault:=if (eI t xs).2=true then t.fault else 2}) w w'):=by
 have u:=St.begin U;refine ad9 _ _ _ _ ?_;unfold S161;refine aK gX G (aH (aC (λc=>?_) λc=>?_))
 .have B:eI t xs=(0,true):=by unfold eI;rw[ew cK]
  rw[B];exact⟨rfl,u.mut⟩
 have B:eI t xs=((pR t.names t.dQ xs).1,decide ((pR t.names t.dQ xs).2=0)):=by unfold eI;rw[ej cK]
 obtain⟨V,W,rg,pl,es,E,u⟩:=eR.open u;have u:=u.drew;refine aE (aA Av (aB jk u.hb rfl (aE (aA Aw (aB eg u.hb rfl (aV agi u (C143 _ _ _ xs t.names t.dQ _ (G.ext (Ext.drew w)) (E _ (J _ u.aG)) u.p2.dX O M) λ_ Y u=>aO rfl (aO rfl ⟨λw'=>St w F [eR K Φ p room {t with fault:=if (eI t xs).2=true then t.fault else 2}] w',bV (aC (λI=>?_) λI=>?_),?_⟩)))))))
 .refine aE (aA wP (aT u bM (dL rfl) rfl λ_ u=>?_));have ht:{t with fault:=2}={t with fault:=if (eI t xs).2=true then t.fault else 2}:=by rw[B];dsimp only;rw[fN I];rfl
  rw[<- ht];exact eR.shut (t:={t with fault:=2}) E u
 .have ht:t={t with fault:=if (eI t xs).2=true then t.fault else 2}:=by rw[B];dsimp only;rw[ez cK];rfl
  rw[<- ht];exact eR.shut E u
 intro _ u _;exact aH ⟨by rw[B],u.mut⟩
def eR.ajt{w w0:World}{A:Nat->Prop}{R:List HP}{p:Nat}{K Φ Ψ:hM}{room:Int}{t:jY}(u:St w0 A (eD Ψ::eR K Φ p room t::R) w):St w0 A (eR K (λw=>Φ w/\Ψ w) p room t::R) w:=by
 obtain⟨E,G,rg,pl,es,B,u⟩:=eR.open u.p1
 have h1:=u.p5.p5.gR.dN (Ψ:=λw=>DH K w es t.cG/\Φ w/\Ψ w) λw h=>⟨h.1.1,h.1.2,h.2⟩
 exact eR.shut B h1.p4.p4.p4.p4
theorem iq.cons{w:World}{t:bE}{x:bQ}{ts:List bE}{xs:List bQ}(h:mh w t x)(u:iq ts xs w):iq (t::ts) (x::xs) w:=by
 refine⟨by simp[u.1],λi t' B h1 h2=>?_⟩
 cases i with
 | zero=>simp at h1 h2;subst h1 h2;exact h
 | succ i=>exact u.2 i t' B (by simpa using h1) (by simpa using h2)
theorem Qe(x:bQ)(a:Bk):(Bk.cons x a .nil .nil).flat=x::a.flat:=by simp[Bk.flat]
theorem C196(K Φ:hM)(p:Nat)(room:Int)(t:jY)(F:Nat->Prop)(x:bQ)(xv:bE)(av:SV)(M:List bE)(a b r:Bk)(e:Bool)(V:PD)(w:World)(hF:(eR K Φ p room t).p w F)(J:∀w',gv F w w'->K w')(Bz:t.cG=(.cons x a b r,e)::V)(iV:(Bk.cons x a b r).str)(oG:t.cG.length<=90000)
   (z9:∀w,K w->mh w xv x) (hΦ:∀w,Φ w->rn K av M a.flat w) (hn:0<=x.n/\x.n<=1000) :
   CR 196 [.pointer (some ⟨p,0,none⟩),ia xv,ia av] w (λv w'=>v=.tuple #[]/\mR F (eR K Φ p room {t with cG:=mK x a t.cG}) w w'):=by
 have u:=St.begin hF;obtain⟨B,E,rfl,_,_⟩:=ji (z9 _ (J _ u.aG));have T0:a.flat.length<=40:=by rw[Bk.cY];exact iV.2.2.1
 have hppl:(gB t.cG).length<=90001:=by
  rw[Bz];show(jt r false V).length<=_;rw[Bz,oE]at oG;cases r with
  | nil=>show V.length<=_;omega
  | cons _ _ _ _=>show V.length+1<=_;omega
 refine fg Tryz.func196 ?_;refine cI (x:=(⟨x.kind,x.eF,x.name,B,E,x.n,x.body,x.eu,x.at_⟩:bE)) u (λb4 _ u=>bF MV u.p1 (H':=λ_=>eR K (Φ) p room {t with cG:=gB t.cG}) (Φ:=λ_ _=>True) (λO W U=>?_) ?_)
 .exact(C164 K _ p room t O x a b r e V _ W (λw' hc=>J w' (U w' hc).aG) Bz iV cK).mono λ_ _ r=>r.mono λ_ _ h=>⟨trivial,h.2⟩
 rintro _ _ _ u;refine aA jQ (aB (v:=hZ x.n) bM u.p1.hb rfl (aH (aC (λc=>?_) λc=>?_)))
 .rw[show mK x a t.cG=gB t.cG from by unfold mK;rw[ew c]];exact⟨rfl,u.p1.drop.mut⟩
 rw[show mK x a t.cG=jt a false ((.cons {x with n:=x.n-1} a .nil .nil,true)::gB t.cG)from by unfold mK;rw[ej c]];refine aD eM u.p1.At (bD ([⟨x.kind,x.eF,x.name,B,E,x.n,x.body,x.eu,x.at_⟩]:List bE) u fq rfl rfl (dL rfl) λs13 _ u=>?_);have G:=hΦ _ (eR.now u.p1);have hral:=(G.1 _ (J _ u.aG)).1;refine bJ u fq (G.2 (J _ u.aG)) (by simp;omega) ee (λs15 _ u=>dR u fq cK ei λq17 h17=>mA jQ h17 λq18 Y=>nG (x.n:Int) u bM Y (x:=(⟨x.kind,x.eF,x.name,B,E,x.n,x.body,x.eu,x.at_⟩:bE)) rfl rfl (fh cK (dR u fq cK ei λq21 h21=>mA jQ h21 λq22 h22=>WI (x:=(⟨x.kind,x.eF,x.name,B,E,x.n,x.body,x.eu,x.at_⟩:bE)) (⟨x.kind,x.eF,x.name,B,E,x.n-1,x.body,x.eu,x.at_⟩:bE) (x.n-1:Int) u bM h22 rfl ee rfl λ_ u=>?_)))
 obtain⟨I,rfl⟩:=u.dX.fJ;have u:=eR.ajt u.freeze
 have Z:∀w',K w'->iq (((⟨x.kind,x.eF,x.name,B,E,x.n,x.body,x.eu,x.at_⟩:bE)::M).set (0:Int).toNat (⟨x.kind,x.eF,x.name,B,E,x.n-1,x.body,x.eu,x.at_⟩:bE)) (Bk.cons {x with n:=x.n-1} a .nil .nil).flat w':=λw' hw=>by
  rw[Qe];obtain⟨_,_,h4,h5,h6⟩:=z9 w' hw;cases h4
  exact iq.cons ⟨B,E,rfl,h5,h6⟩ (G.1 w' hw)
 refine bF MU u (H':=λ_=>eR K (λw=>Φ w/\dC (λ_=>True) w (ia I) (([(⟨x.kind,x.eF,x.name,B,E,x.n,x.body,x.eu,x.at_⟩:bE)]++M).set (0:Int).toNat (⟨x.kind,x.eF,x.name,B,E,x.n-1,x.body,x.eu,x.at_⟩:bE))) p room { {t with cG:=gB t.cG}with cG:=jt (Bk.cons {x with n:=x.n-1} a .nil .nil) true ({t with cG:=gB t.cG}).cG}) (Φ:=λ_ _=>True) (λO W U=>?_) ?_
 .exact(C116 K _ p room ({t with cG:=gB t.cG}) O I _ (Bk.cons {x with n:=x.n-1} a .nil .nil) true _ W (λw' hc=>J w' (U w' hc).aG) (λ_ h=>⟨Z,λ_=>h.2⟩) (by show(gB t.cG).length<=_;omega)).mono λ_ _ r=>r.mono λ_ _ h=>⟨trivial,h.2⟩
 rintro _ _ _ u;refine bF MU u (H':=λ_=>eR K (λw=>Φ w/\dC (λ_=>True) w (ia I) (([(⟨x.kind,x.eF,x.name,B,E,x.n,x.body,x.eu,x.at_⟩:bE)]++M).set (0:Int).toNat (⟨x.kind,x.eF,x.name,B,E,x.n-1,x.body,x.eu,x.at_⟩:bE))) p room { {t with cG:=(.cons {x with n:=x.n-1} a .nil .nil,true)::gB t.cG}with cG:=jt a false ({t with cG:=(.cons {x with n:=x.n-1} a .nil .nil,true)::gB t.cG}).cG}) (Φ:=λ_ _=>True) (λO W U=>?_) ?_
 .exact(C116 K _ p room ({t with cG:=(.cons {x with n:=x.n-1} a .nil .nil,true)::gB t.cG}) O av M a false _ W (λw' hc=>J w' (U w' hc).aG) (λw h=>hΦ w h.1) (by show(gB t.cG).length+1<=_;omega)).mono λ_ _ r=>r.mono λ_ _ h=>⟨trivial,h.2⟩
 rintro _ _ _ u;exact⟨rfl,(eR.mono u.p1.drop λ_ h=>h.1).mut⟩
def C117(K:hM)(p:Nat)(room:Int)(t tR:jY)(n:Nat)(cs ls:List ByteArray)(F:Nat->Prop)(w:World)(hF:(rG K p room t).p w F)(V:∀w',gv F w w'->K w')(kC:ym cs ls t)(hg:te n t=some tR) :
   CR 117 [.pointer (some ⟨p,0,none⟩)] w (λv w'=>v=.tuple #[]/\mR F (rG K p room tR) w w'):=by
 have u:=St.begin hF;refine aea _ _ _ ?_;unfold S117;refine⟨λmm w'=>∃B:jY,te mm B=some tR/\ym cs ls B/\St w F [rG K p room B] w',⟨n,t,hg,kC,u⟩,?_⟩;rintro mm _ ⟨B,BF,W,u⟩ _;obtain⟨k,rfl⟩:=HK BF;have oG:=DF W.p;have EZ:=W.cl;have Zj:=W.nb;have Gw:=W.rl;obtain⟨bp,nv,rg,pl,es,hk,u⟩:=eR.open u;refine dO Zh (C137 K p B bp nv rg pl es _ _ u.hb u.p3.dX u.p4.eD.1 (λ_ e=>V _ (u.aG.then e)) W.p cK) ?_;rintro v _ ⟨he,hv⟩;have u:=u.ext he
 rcases hv with⟨eG,rfl⟩|⟨x,a,b,xv,E,G,I,J,Cj,rfl,z9,hab⟩
 .refine aO rfl (aO rfl (aO rfl (aO rfl (aM u jy λb2 w3 u=>aI (x:=(⟨0,⟨#[]⟩,⟨#[]⟩,bX,bX,0,0,0,0⟩:bE)) u eM rfl rfl λw4 u=>bR (iz ?_)))));rw[ph BF (Zc eG)];exact⟨rfl,(eR.shut hk u.drop).mut⟩
 obtain⟨Z,Y,rfl,_,_⟩:=ji (z9 _ (V _ u.aG))
 have Qf:∀w,K w->dC (λ_=>True) w (ia Z) x.e/\dC (λ_=>True) w (ia Y) x.f:=λw hw=>by
  obtain⟨_,_,h4,h5,h6⟩:=ji (z9 w hw);cases h4
  exact⟨h5,h6⟩
 obtain⟨hx,sa,sb,aa,ab,Kj,hb2,T0,r,e,p',Bz,sr,ar⟩:=W.top Cj;have iV:(Bk.cons x a b r).str:=W.p.st _ (by rw[Bz];exact o1 ..);have hxe:=hx.e;have u:=u.p4.dN (Ψ:=λw=>DH K w es B.cG/\(rn K E I a.flat w/\rn K G J b.flat w)) (λw h=>⟨h.1,hab w h.1⟩);have u:=eR.shut (Φ:=λw=>rn K E I a.flat w/\rn K G J b.flat w) (t:=B) hk u.p4.p4.p4.p4;refine aO rfl (aO rfl (aO rfl (aO rfl (aM u jy λb2 w3 u=>aI (x:=(⟨x.kind,x.eF,x.name,Z,Y,x.n,x.body,x.eu,x.at_⟩:bE)) u eM rfl rfl λw4 u=>bR (ft (aA iX (aB (v:=ia Z) jx u.hb rfl (bF MW u.p1 (H':=λ_=>eR K (λw=>rn K E I a.flat w/\rn K G J b.flat w) p room {B with fault:=if (eI B x.e).2=true then B.fault else 2}) (Φ:=λv _=>v=.tuple #[hZ (eI B x.e).1,.bool (eI B x.e).2]) (λM U O=>?_) ?_))))))))
 .exact C161 K _ p room B M _ x.e _ U (λw' hc=>V w' (O w' hc).aG) (Qf _ (V _ u.aG)).1 cK cK
 rintro _ w5 rfl u;refine aO rfl (aO rfl (bR (aY (λc1=>?_) λc1=>?_)))
 .have h1:(eI B x.e).2=false:=by simpa using c1
  rw[h1]at u;rw[ph BF (Zd Cj h1)];exact⟨rfl,(eR.mono u.p1.drop λ_ _=>trivial).mut⟩
 have h1:(eI B x.e).2=true:=by simpa using c1
 replace u:St w F [eR K (λw=>rn K E I a.flat w/\rn K G J b.flat w) p room B,bY b2 (j0 (⟨x.kind,x.eF,x.name,Z,Y,x.n,x.body,x.eu,x.at_⟩:bE))] w5:=by rw[h1]at u;exact u
 refine aA j6 (aB (v:=ia Y) jx u.p1.hb rfl (bF MW u (H':=λ_=>eR K (λw=>rn K E I a.flat w/\rn K G J b.flat w) p room {B with fault:=if (eI B x.f).2=true then B.fault else 2}) (Φ:=λv _=>v=.tuple #[hZ (eI B x.f).1,.bool (eI B x.f).2]) (λM U O=>?_) ?_))
 .exact C161 K _ p room B M _ x.f _ U (λw' hc=>V w' (O w' hc).aG) (Qf _ (V _ u.aG)).2 cK cK
 rintro _ w6 rfl u;refine aO rfl (aO rfl (bR (aY (λc2=>?_) λc2=>?_)))
 .have h2:(eI B x.f).2=false:=by simpa using c2
  rw[h2]at u;rw[ph BF (Ze Cj h2)];exact⟨rfl,(eR.mono u.p1.drop λ_ _=>trivial).mut⟩
 have h2:(eI B x.f).2=true:=by simpa using c2
 replace u:St w F [eR K (λw=>rn K E I a.flat w/\rn K G J b.flat w) p room B,bY b2 (j0 (⟨x.kind,x.eF,x.name,Z,Y,x.n,x.body,x.eu,x.at_⟩:bE))] w6:=by rw[h2]at u;exact u
 have hgk:=Zf Cj h1 h2
 have vZ:∀(t2:jY) (w':World),qJ B x a b (eI B x.e).1=(t2,true)->St w F [eR K (λw=>rn K E I a.flat w/\rn K G J b.flat w) p room t2,bY b2 (j0 (⟨x.kind,x.eF,x.name,Z,Y,x.n,x.body,x.eu,x.at_⟩:bE))] w'->∃m',m'<k+1/\∃B:jY,te m' B=some tR/\ym cs ls B/\St w F [rG K p room B] w':=λt2 w' h3 h4=>by
  have h5:=hgk.trans h3;obtain⟨h6,h7,_⟩:=DG W;rw[h5]at h6 h7;exact⟨k,L2 k,t2,SJ BF h5,h6,eR.mono h4.p1.drop λ_ _=>trivial⟩
 refine aA dM (aB (v:=hZ x.kind) bM u.p1.hb rfl (aH (aC (λk1=>?_) λk1=>?_)))
 .have hpm:=dJ.1 (hx.rg (.inl k1));obtain⟨j,hj,B7,_⟩:=lX hpm;have D3:=(kp.1 B7).1;obtain⟨bp,nv,rg,pl,es,hk,u⟩:=eR.open u;have u:=u.drew;refine aE (aA Aw (aB eg u.hb rfl (aE (aA Av (aB jk u.hb rfl (aA iH (aB (v:=.string x.eF) gw u.p5.hb rfl (aV Hp u (C159 _ B.names x.eF _ (hk _ (V _ u.aG)) cK) λ_ he u=>?_))))))));refine⟨aF eg (u.hb.cell rfl),?_⟩;refine dR u.p2 cS cK cK (λq51 h51=>ju (eI B x.e).1 u.p2 bM h51 cK λ_ u=>have u:=eR.shut (Φ:=λw=>rn K E I a.flat w/\rn K G J b.flat w) (t:=pg B x.eF (eI B x.e).1) hk u.p2.p2;bF MV u (H':=λ_=>eR K (λw=>rn K E I a.flat w/\rn K G J b.flat w) p room {pg B x.eF (eI B x.e).1 with cG:=gB (pg B x.eF (eI B x.e).1).cG}) (Φ:=λ_ _=>True) (λM U O=>?_) ?_)
  .exact(C164 K _ p room (pg B x.eF (eI B x.e).1) M x a b r e p' _ U (λw' hc=>V w' (O w' hc).aG) Bz iV (by show B.cG.length<=_;omega)).mono λ_ _ r=>r.mono λ_ _ h=>⟨trivial,h.2⟩
  rintro _ _ _ u;exact vZ _ _ (Zb k1) u
 refine aH (aC (λk2=>?_) λk2=>?_)
 .refine bF MV u (H':=λ_=>eR K (λw=>rn K E I a.flat w/\rn K G J b.flat w) p room {B with cG:=gB B.cG}) (Φ:=λ_ _=>True) (λM U O=>?_) ?_
  .exact(C164 K _ p room B M x a b r e p' _ U (λw' hc=>V w' (O w' hc).aG) Bz iV cK).mono λ_ _ r=>r.mono λ_ _ h=>⟨trivial,h.2⟩
  rintro _ w10 _ u;refine⟨λjv w'=>jv=(if (eI B x.e).1=0 then ia G else ia E)/\w'=w10,?_,?_⟩
  .refine aH ?_;refine aC (λc=>⟨(ew c).symm,rfl⟩) (λc=>⟨(ej c).symm,rfl⟩)
  rintro _ _ ⟨rfl,rfl⟩ _
  have hpq:(gB B.cG).length<=100000:=by
   have:=DF W.p.pop;have:=Qc Bz;omega
  have e1:(if (eI B x.e).1=0 then ia G else ia E)=ia (if (eI B x.e).1=0 then G else E):=by split<;>rfl
  rw[e1];refine bF MU u (H':=λ_=>eR K (λw=>rn K E I a.flat w/\rn K G J b.flat w) p room { {B with cG:=gB B.cG}with cG:=jt (if (eI B x.e).1=0 then b else a) false ({B with cG:=gB B.cG}).cG}) (Φ:=λ_ _=>True) (λM U O=>?_) ?_
  .exact(C116 K _ p room ({B with cG:=gB B.cG}) M (if (eI B x.e).1=0 then G else E) (if (eI B x.e).1=0 then J else I) (if (eI B x.e).1=0 then b else a) false _ U (λw' hc=>V w' (O w' hc).aG) (λ_ h=>by split;exact h.2;exact h.1) hpq).mono λ_ _ r=>r.mono λ_ _ h=>⟨trivial,h.2⟩
  rintro _ _ _ u;exact vZ _ _ (JD k2) u
 refine aH (aC (λk3=>?_) λk3=>?_)
 .refine aD eM u.p1.At (bF aqP u (H':=λ_=>eR K (λw=>rn K E I a.flat w/\rn K G J b.flat w) p room {B with cG:=mK x a B.cG}) (Φ:=λ_ _=>True) (λM U O=>?_) ?_)
  .exact(C196 K _ p room B M x ⟨x.kind,x.eF,x.name,Z,Y,x.n,x.body,x.eu,x.at_⟩ E I a b r e p' _ U (λw' hc=>V w' (O w' hc).aG) Bz iV cK z9 (λ_ h=>h.1) (hx.n k3)).mono λ_ _ r=>r.mono λ_ _ h=>⟨trivial,h.2⟩
  rintro _ _ _ u;exact vZ _ _ (SL k3) u
 refine aH (aC (λk4=>?_) λk4=>?_)
 .refine bF aqQ u (H':=λ_=>eR K (λw=>rn K E I a.flat w/\rn K G J b.flat w) p room {B with cG:=ky B.cG}) (Φ:=λ_ _=>True) (λM U O=>?_) ?_
  .exact(C197 K _ p room B M _ U (λw' hc=>V w' (O w' hc).aG) cK).mono λ_ _ r=>r.mono λ_ _ h=>⟨trivial,h.2⟩
  rintro _ _ _ u;exact vZ _ _ (SM k4) u
 refine aH (aC (λk5=>?_) λk5=>?_)
 .refine aH (aC (λc=>?_) λc=>?_)
  .obtain⟨bp,nv,rg,pl,es,hk,u⟩:=eR.open u;refine aE (aA wP (aT u bM (dL rfl) rfl λ_ u=>?_));have u:=eR.shut (Φ:=λw=>rn K E I a.flat w/\rn K G J b.flat w) (t:={B with fault:=1}) hk u;rw[ph BF (hgk.trans (MS k5 c))];exact⟨rfl,(eR.mono u.p1.drop λ_ _=>trivial).mut⟩
  refine bF MV u (H':=λ_=>eR K (λw=>rn K E I a.flat w/\rn K G J b.flat w) p room {B with cG:=gB B.cG}) (Φ:=λ_ _=>True) (λM U O=>?_) ?_
  .exact(C164 K _ p room B M x a b r e p' _ U (λw' hc=>V w' (O w' hc).aG) Bz iV cK).mono λ_ _ r=>r.mono λ_ _ h=>⟨trivial,h.2⟩
  rintro _ _ _ u;exact vZ _ _ (MT k5 c) u
 rw[ph BF (hgk.trans (SN k1 k2 k3 k4 k5))];exact⟨rfl,(eR.mono u.p1.drop λ_ _=>trivial).mut⟩
variable (w:World) (K:Value->hM)
def axH:dI:=λi=>match i with
 | 8=>(.of [(0,[]),(1,[]),(2,[]),(3,[]),(4,[]),(5,[]),(6,[]),(7,[]),(8,[]),(9,[]),(10,[]),(11,[]),(12,[]),(13,[]),(14,[7]),(15,[]),(16,[]),(17,[]),(18,[]),(19,[])])
 | _=>.nil
def S160(s0 G a E:Value):Prop:=
 qZ hH (zx 193 a) w λb c=>aL 56 c λd e=>nC G λf=>fA 138 f 0 λg=>lA 88 g e λh=>cF 226 [h,E] e λj k=>xT j 0 λl=>xT j 1 λn=>GM (λJ=>
 eP hH (Op.unary .not n) λo=>cV o (nC s0 λp=>fA 96 p 4 λq=>lA 93 q k λs=>cF 227 [s,E] k λt u=>xT t 0 λv=>xT t 1 λ_=>J v (i 1) u) (J l (i 2) k))
 (λI B x=>∀_:Env,
 nC G λy=>fA 138 y 2 λz=>lA 41 z (drew x) λM=>nC G λU=>fA 138 U 1 λV=>lA 91 V (drew x) λad=>fA 193 b 1 λW=>lA 9 W (drew x) λaf=>cF 159 [ad,af] (drew x) λag O=>
 kA 41 z M O (iA 41 M ag λai=>sA 3 ai I O λZ=>eP hH (l4 56 [(0,B),(2,E),(3,I)].toArray) λY=>sA 56 d Y Z λal=>lA 56 d al λr=>
 K r al))
def axI:dI:=λi=>match i with
 | 6=>(.of [(0,[]),(1,[]),(2,[]),(3,[]),(4,[]),(5,[]),(6,[]),(7,[]),(8,[]),(9,[]),(11,[]),(10,[3]),(12,[]),(13,[])])
 | _=>.nil
theorem aec(E u B G:Value)(h:S160 w K E u B G):CR 160 [E,u,B,G] w K:=
 qm 49 axI 256 [.cell 8 56] Tryz.func160 h
def S163(U E a B:Value):Prop:=
 qZ hH (zx 193 a) w λb c=>aL 56 c λd e=>nC U λf=>fA 96 f 4 λg=>lA 93 g e λh=>cF 227 [h,B] e λj k=>xT j 0 λl=>xT j 1 λ_=>fA 193 b 3 λn=>
 lA 82 n k λo=>cF 161 [E,o] k λp q=>xT p 0 λs=>xT p 1 λ_=>fA 193 b 4 λt=>lA 82 t q λu=>cF 161 [E,u] q λv x=>xT v 0 λy=>xT v 1 λ_=>nC E λz=>
 fA 138 z 2 λV=>lA 41 V (drew x) λJ=>nC E λZ=>fA 138 Z 1 λad=>lA 91 ad (drew x) λae=>fA 193 b 1 λaf=>lA 9 af (drew x) λag=>cF 159 [ae,ag] (drew x) λY O=>
 kA 41 V J O (iA 41 J Y λaj=>sA 3 aj l O λI=>bA .neq 3 l s λal=>cV al (eP hH (l4 56 [(0,(i 9)),(2,B),(3,l)].toArray) λam=>sA 56 d am I λM=>
 lA 56 d M λr=>K r M) (nC U λao=>fA 96 ao 4 λap=>lA 93 ap I λaq=>cF 156 [aq,B,y] I λ_ ar=>eP hH (l4 56 [(0,(i 8)),(2,B),(3,l),(4,y)].toArray) λG=>
 sA 56 d G ar λW=>lA 56 d W λGj=>K Gj W))
def axJ:dI:=λi=>match i with
 | 4=>(.of [(0,[]),(1,[]),(2,[]),(3,[]),(4,[]),(5,[]),(6,[]),(7,[]),(8,[]),(9,[]),(11,[]),(10,[3]),(12,[]),(13,[])])
 | _=>.nil
theorem aed(E u B G:Value)(h:S163 w K E u B G):CR 163 [E,u,B,G] w K:=
 qm 68 axJ 256 [.cell 8 56] Tryz.func163 h
def S91(I O:Value):Prop:=
 aL 56 w λa b=>nC I λc=>fA 96 c 6 λd=>lA 94 d b λe=>iA 94 e O λf=>lA 135 f b λg=>nC g λh=>fA 138 h 4 λj=>lA 3 j b λk=>bB .neq 3 k (i 0) λl=>
 cV l (nC g λn=>fA 138 n 4 λo=>lA 3 o b λp=>cF 158 [I,O,p] b λq s=>sA 56 a q s λt=>lA 56 a t λr=>K r t) (cF 137 [g] b λu v=>xT u 0 λx=>xT u 1 λ_=>
 xT u 2 λ_=>xT u 3 λ_=>aL 193 v λy z=>sA 193 y x z λU=>nC I λab=>fA 96 ab 1 λac=>lA 91 ac (drew U) λad=>fA 193 y 2 λae=>lA 9 ae (drew U) λaf=>
 nC I λag=>fA 96 ag 2 λah=>lA 91 ah (drew U) λai=>fA 193 y 2 λaj=>lA 9 aj (drew U) λak=>cF 159 [ad,af] (drew U) λal W=>kA 91 ah ai W (kA 9 aj ak W (
 cF 159 [ai,ak] W λV Z=>nC I λap=>fA 96 ap 0 λaq=>lA 27 aq Z λar=>cF 52 [ar,al] Z λG au=>aL 56 au λE B=>yE (λJ=>fA 193 y 0 λaw=>lA 3 aw B λM=>
 bB .eql 3 M (i 2) λay=>cV ay (lA 193 y B λaz=>cF 160 [I,g,az,al] B λa0 a1=>sA 56 E a0 a1 λa2=>J a2) (bB .eql 3 M (i 3) λa3=>cV a3 (fA 193 y 3 λa4=>
 lA 82 a4 B λa5=>cF 161 [g,a5] B λa6 a7=>xT a6 0 λY=>xT a6 1 λ_=>nC g λa9=>fA 138 a9 0 λba=>lA 88 ba a7 λbb=>eP hH (l4 231 [(0,(i 3)),(1,G),(2,al),(3,Y)].toArray) λbc=>
 cF 162 [bb,bc] a7 λ_ bd=>eP hH (l4 56 [(0,(i 3)),(2,al),(3,Y)].toArray) λbe=>sA 56 E be bd λbf=>J bf) (bB .eql 3 M (i 5) λbg=>cV bg (nC g λbh=>
 fA 138 bh 0 λbi=>lA 88 bi B λbj=>eP hH (l4 231 [(0,(i 5)),(1,G)].toArray) λbk=>cF 162 [bj,bk] B λ_ bl=>eP hH (l4 56 [(0,(i 4)),(2,G)].toArray) λbm=>
 sA 56 E bm bl λbn=>J bn) (bB .eql 3 M (i 6) λbo=>cV bo (nC g λbp=>fA 138 bp 0 λbq=>lA 88 bq B λbr=>eP hH (l4 231 [(0,(i 6)),(1,G)].toArray) λbs=>
 cF 162 [br,bs] B λ_ bt=>eP hH (l4 56 [(0,(i 5)),(2,G)].toArray) λbu=>sA 56 E bu bt λbv=>J bv) (bB .eql 3 M (i 7) λbw=>cV bw (nC g λbx=>
 fA 138 bx 0 λbz=>lA 88 bz B λb0=>eP hH (l4 231 [(0,(i 7))].toArray) λb1=>cF 162 [b0,b1] B λ_ b2=>eP hH (l4 56 [(0,(i 6))].toArray) λb3=>
 sA 56 E b3 b2 λb4=>J b4) (bB .eql 3 M (i 8) λb5=>cV b5 (eP hH (l4 56 [(0,(i 7))].toArray) λb6=>sA 56 E b6 B λb7=>J b7) (bB .eql 3 M (i 4) λb8=>
 cV b8 (lA 193 y B λb9=>cF 163 [I,g,b9,al] B λca cb=>sA 56 E ca cb λcc=>J cc) (bB .eql 3 M (i 9) λcd=>cV cd (nC I λce=>fA 96 ce 5 λcf=>lA 41 cf B λcg=>
 iA 41 cg V λch=>sA 3 ch O B λci=>eP hH (l4 56 [(0,(i 10)),(2,V)].toArray) λcj=>sA 56 E cj ci λck=>J ck) (nC I λcl=>fA 96 cl 5 λcm=>
 lA 41 cm B λcn=>iA 41 cn V λco=>lA 3 co B λcp=>bA .neq 3 cp O λcq=>cV cq (cF 158 [I,O,(i 3)] B λcr cs=>sA 56 a cr cs λct=>lA 56 a ct λGj=>K Gj ct) (
 nC I λcu=>fA 96 cu 5 λcv=>lA 41 cv B λcw=>iA 41 cw V λcx=>sA 3 cx (i (-1)) B λcy=>eP hH (l4 56 [(0,(i 11)),(2,V)].toArray) λcz=>sA 56 E cz cy λc0=>
 J c0)))))))))) (λc1=>∀_:Env,
 fA 56 E 1 λc2=>sA 3 c2 O c1 λc3=>cF 164 [g] c3 λ_ c4=>cF 117 [g] c4 λ_ c5=>lA 56 E c5 λc6=>sA 56 a c6 c5 λc7=>lA 56 a c7 λKG=>K KG c7))))
def P91:dI:=λi=>match i with
 | 5=>(.of [(0,[]),(1,[]),(2,[]),(3,[]),(4,[]),(5,[]),(7,[]),(8,[]),(9,[]),(10,[]),(11,[]),(12,[]),(6,[10,12]),(13,[]),(14,[]),(15,[])])
 | _=>.nil
theorem ajy(B u:Value)(h:S91 w K B u):CR 91 [B,u] w K:=
 qm 171 P91 16 [.cell 4 56] Tryz.func91 h
def P90:dI:=λi=>match i with
 | 1=>(.op 0 [] (.op 1 [] (.op 2 [] (.op 3 [] (.op 4 [] (.op 5 [] (.op 6 [] (.op 7 [] (.op 8 [] (.op 9 [] (.op 10 [] (.op 11 [] (.op 12 [] (.alt 13 [] (.of [(14,[]),(15,[]),(16,[]),(17,[3,5,7,10,12]),(18,[]),(19,[])]) (.alt 17 [3,5,7,10,12] (.of [(13,[]),(14,[]),(15,[]),(16,[]),(18,[]),(19,[])]) .stop)))))))))))))))
 | 4=>.run 0 9
 | 8=>.run 0 7
 | _=>.nil
def P56:dI:=λi=>match i with
 | 9=>(.of [(0,[]),(1,[]),(2,[]),(3,[]),(4,[]),(5,[]),(6,[2]),(7,[]),(8,[]),(9,[])])
 | _=>.nil
def P24:dI:=λi=>match i with
 | 1=>.run 0 30
 | _=>.nil
def P68:dI:=λi=>match i with
 | 2=>(.of [(0,[]),(1,[]),(2,[]),(3,[]),(4,[]),(5,[]),(6,[]),(7,[]),(8,[]),(9,[]),(10,[]),(11,[]),(12,[]),(13,[3,7,11]),(14,[])])
 | _=>.nil
def S70(E:Value):Prop:=
 nC E λa=>fA 96 a 0 λb=>lA 27 b w λc=>cF 54 [c] w λd e=>nC E λf=>fA 96 f 0 λg=>fA 27 g 5 λh=>lA 25 h e λj=>lN 25 j λk=>oq (λM B l n=>∀_:Env,
 bA .lss 3 l k λo=>cV o (eT (λK2=>iA 25 j l λp=>lA 85 p n λq=>aL 85 n λO r=>sA 85 O q r λs=>fA 85 O 0 λt=>lA 82 t (drew s) λu=>nC E λv=>fA 96 v 1 λx=>
 lA 91 x (drew s) λy=>eP hH (n4 91 y none (some d) none) λz=>cF 72 [E] (drew s) λaa G=>kA 82 t u G (kA 91 x y G (eP hH (n4 41 aa none (some d) none) λW=>
 cF 143 [u,z,W] G λV U=>xT V 0 λaf=>xT V 1 λag=>bB .eql 31 ag (i 0) λah=>cV ah (bB .neq 3 af (i 0) λai=>bS 117 1 [(0,ai)] U λaj ak=>aP 117 B aj ak λal am=>
 K2 al am) (bS 117 1 [(0,ff)] U λZ Y=>aP 117 B Z Y λap aq=>K2 ap aq)))) (λJ ar=>∀_:Env,
 bB .add 3 l (i 1) λI=>M J I ar)) (K B n)) (λM=>M (.slice none 0 0) (i 0) e)
def P70:dI:=λi=>match i with
 | 6=>(.of [(0,[]),(1,[]),(2,[]),(3,[]),(4,[]),(5,[]),(6,[]),(7,[]),(8,[]),(10,[]),(9,[1,5]),(11,[]),(12,[]),(13,[]),(14,[]),(15,[]),(16,[]),(17,[])])
 | _=>.nil
theorem ajB(u:Value)(h:S70 w K u):CR 70 [u] w K:=
 qm 51 P70 4 [.tmp 2] Tryz.func70 h
def S12(p0 O:Value):Prop:=
 qZ hH (zx 27 p0) w λp2 a=>lA 27 p2 a λb=>cF 48 [b] a λc d=>xT c 0 λe=>xT c 1 λ_=>bB .neq 31 e (i 0) λf=>cV f (K (.tuple #[(.pointer none),e]) d) (
 cF 49 [O] d λg h=>xT g 0 λ_=>xT g 1 λj=>bB .neq 31 j (i 0) λk=>cV k (K (.tuple #[(.pointer none),j]) h) (lA 27 p2 (drew h) λl=>lA 27 p2 (drew h) λn=>lA 27 p2 (drew h) λo=>
 cF 50 [n] (drew h) λp q=>kA 27 p2 l q (kA 27 p2 o q (cF 51 [o] q λr s=>kA 27 p2 l s (eP hH (l4 96 [(0,l),(1,p),(2,r),(3,O)].toArray) λt=>qZ hH (zx 96 t) s λu v=>
 nC u λx=>fA 96 x 1 λy=>lA 91 y v λz=>lN 91 z λaa=>oq (λJ G I E=>∀_:Env,
 bA .lss 3 I aa λad=>cV ad (lA 27 p2 E λae=>cF 52 [ae,I] E λaf ag=>bS 41 1 [(0,af)] ag λW ai=>aP 41 G W ai λaj ak=>bB .add 3 I (i 1) λal=>J aj al ak) (
 lA 27 p2 (drew E) λam=>lA 27 p2 (drew E) λM=>cF 54 [am] (drew E) λZ V=>kA 27 p2 M V (cF 55 [M] V λaq ar=>cF 53 [G,Z,aq] ar λB au=>xT B 0 λav=>
 xT B 1 λ_=>nC u λY=>fA 96 Y 4 λax=>sA 93 ax av au λU=>fA 27 p2 3 λaz=>lA 24 az U λa0=>cF 56 [u,a0] U λ_ a1=>K (.tuple #[u,(i 0)]) a1))) λJ=>J (.slice none 0 0) (i 0) v)))))
def P12:dI:=λi=>match i with
 | 7=>(.of [(0,[]),(1,[]),(3,[]),(5,[]),(2,[0,3]),(4,[0]),(6,[]),(7,[]),(8,[])])
 | 14=>(.of [(0,[]),(1,[]),(2,[]),(4,[]),(3,[4]),(5,[]),(6,[]),(7,[]),(8,[]),(9,[]),(10,[]),(11,[]),(12,[])])
 | _=>.nil
theorem ajC(p0 u:Value)(h:S12 w K p0 u):CR 12 [p0,u] w K:=
 qm 69 P12 48 [.tmp 4,.tmp 5] Tryz.func12 h
def S87(E:Value):Prop:=
 lN 41 E λa=>oq (λu B b c=>∀_:Env,
 bA .lss 3 b a λd=>cV d (iA 41 E b λe=>lA 3 e c λf=>bB .mul 3 B (i 10000) λg=>bA .add 3 g f λh=>bB .add 3 b (i 1) λj=>u h j c) (K B c)) (λu=>u (i 0) (i 0) w)
theorem ajD(u:Value)(h:S87 w K u):CR 87 [u] w K:=
 qm 18 (λ_=>.nil) 4 [.tmp 2] Tryz.func87 h
theorem aqY:PL 138:=dK Tryz.func138
theorem aqZ:PL 67:=dK Tryz.func67
theorem agX:PL 158:=dK Tryz.func158
theorem aq0:PL 160:=dK Tryz.func160
theorem aq1:PL 163:=dK Tryz.func163
theorem axK:PL 91:=dK Tryz.func91
theorem axL:PL 90:=dK Tryz.func90
theorem aq2:PL 56:=dK Tryz.func56
theorem aq3:PL 24:=dK Tryz.func24
theorem axM:PL 88:=dK Tryz.func88
theorem ajE:PL 68:=dK Tryz.func68
theorem aq4:PL 140:=dK Tryz.func140
theorem ajF:PL 72:=dK Tryz.func72
theorem axN:PL 70:=dK Tryz.func70
theorem aq5:PL 12:=dK Tryz.func12
theorem axO:PL 87:=dK Tryz.func87
theorem aq6:PL 142:=dK Tryz.func142
theorem aq7:PL 217:=dK Tryz.func217
end Go.Proofs.YtpdlpabnlkofmaaGreatDoor
namespace Go.Proofs.YtpdlpabnlkofmaaGreatDoor
open Go.Fw
def Ck(u:Int)(B:Int):pr hH (l4 50 [(0,hZ u),(1,hZ B)].toArray)=some (.agg [hZ u,hZ B,hZ 0,.slice none 0 0].toArray):=by kernel_rfl
def CN(B:Int)(E:Int)(u:Int):pr hH (l4 50 [(0,hZ B),(1,hZ E),(2,hZ u)].toArray)=some (.agg [hZ B,hZ E,hZ u,.slice none 0 0].toArray):=by kernel_rfl
def JH:pr hH (l4 56 [].toArray)=some (.agg [hZ 0,hZ 0,hZ 0,hZ 0,hZ 0].toArray):=by kernel_rfl
def JI(u:Int):pr hH (l4 56 [(0,hZ u)].toArray)=some (.agg [hZ u,hZ 0,hZ 0,hZ 0,hZ 0].toArray):=by kernel_rfl
def HL(u:Int)(B:Int):pr hH (l4 56 [(0,hZ u),(1,hZ B)].toArray)=some (.agg [hZ u,hZ B,hZ 0,hZ 0,hZ 0].toArray):=by kernel_rfl
def tK(B:Int)(E:Int)(u:Int):pr hH (l4 56 [(0,hZ B),(1,hZ E),(2,hZ u)].toArray)=some (.agg [hZ B,hZ E,hZ u,hZ 0,hZ 0].toArray):=by kernel_rfl
def yY(B:Int)(G:Int)(u:Int)(E:Int):pr hH (l4 56 [(0,hZ B),(1,hZ G),(2,hZ u),(3,hZ E)].toArray)=some (.agg [hZ B,hZ G,hZ u,hZ E,hZ 0].toArray):=by kernel_rfl
def oD(B:Int)(u:Int):pr hH (l4 56 [(0,hZ B),(2,hZ u)].toArray)=some (.agg [hZ B,hZ 0,hZ u,hZ 0,hZ 0].toArray):=by kernel_rfl
def mL(B:Int)(u:Int)(E:Int):pr hH (l4 56 [(0,hZ B),(2,hZ u),(3,hZ E)].toArray)=some (.agg [hZ B,hZ 0,hZ u,hZ E,hZ 0].toArray):=by kernel_rfl
def yZ(B:Int)(u:Int)(E:Int)(G:Int):pr hH (l4 56 [(0,hZ B),(2,hZ u),(3,hZ E),(4,hZ G)].toArray)=some (.agg [hZ B,hZ 0,hZ u,hZ E,hZ G].toArray):=by kernel_rfl
def HM(u:Int)(B:Int):pr hH (l4 56 [(0,hZ u),(3,hZ B)].toArray)=some (.agg [hZ u,hZ 0,hZ 0,hZ B,hZ 0].toArray):=by kernel_rfl
def Gx(W:Option Addr)(Zl Zm:Nat)(I:Option Addr)(Zn Zo:Nat)(u:Option Addr)(U V:Nat)(M5:Option Addr)(M6 M7:Nat)(E:Option Addr)(G Na:Nat)(B:Option Addr)(Zr J:Nat)(Z:Option Addr)(O c1:Nat)(a2:Option Addr)(Y c2:Nat)(M:Int):pr hH (l4 96 [(0,.agg [.slice W Zl Zm,.slice I Zn Zo,.slice u U V,.slice M5 M6 M7,.slice E G Na,.slice B Zr J].toArray),(1,.slice Z O c1),(2,.slice a2 Y c2),(3,hZ M)].toArray)=some (.agg [.slice W Zl Zm,.slice I Zn Zo,.slice u U V,.slice M5 M6 M7,.slice E G Na,.slice B Zr J,.slice Z O c1,.slice a2 Y c2,hZ M,.pointer none,.slice none 0 0,.slice none 0 0,hZ 0,hZ 0,hZ 0].toArray):=by kernel_rfl
def JJ(B:Int)(E:Int)(u:Int):pr hH (l4 114 [(0,hZ B),(1,hZ E),(2,hZ u)].toArray)=some (.agg [hZ B,hZ E,hZ u,.bool false,.bool false].toArray):=by kernel_rfl
def JK(B:Option Addr)(I:Option Addr)(J M:Nat)(E:Option Addr)(G u:Nat):pr hH (l4 138 [(0,.pointer B),(1,.slice I J M),(2,.slice E G u)].toArray)=some (.agg [.pointer B,.slice I J M,.slice E G u,.slice none 0 0,hZ 0].toArray):=by kernel_rfl
def vC(u:Int)(B:Int):pr hH (l4 231 [(0,hZ u),(1,hZ B)].toArray)=some (.agg [hZ u,hZ B,hZ 0,hZ 0].toArray):=by kernel_rfl
def xE(B:Int)(G:Int)(u:Int)(E:Int):pr hH (l4 231 [(0,hZ B),(1,hZ G),(2,hZ u),(3,hZ E)].toArray)=some (.agg [hZ B,hZ G,hZ u,hZ E].toArray):=by kernel_rfl
structure gN where
 p:cE
 room:Int
 mem:Mem
 eV:List Int
 l:List jY
 bZ:Int
 fault:Int
 jd:Int
structure DA where
 pv:bP
 cv:SV
 kv:SV
 q:Nat
 ov:Value
 fv:Value
 ow:Value
 ll:Value
 ps:List Ptr
@[reducible] def qT(a:DA)(s:gN):List Value:=[ia a.pv.lines,ia a.pv.iR,ia a.pv.eJ,ia a.pv.threads,ia a.pv.recover,ia a.pv.dS,ia a.cv,ia a.kv,.int .i64 s.room,.pointer (some ⟨a.q,0,none⟩),a.ow,a.ll,.int .i64 s.bZ,.int .i64 s.fault,.int .i64 s.jd]
def ThK(K:hM)(E:cH)(t:cN):Prop:=∃(u B:SV) (rows:List bE),E=⟨t.name,u,B,t.at_⟩/\(∀w,K w->dC (λ_=>True) w (ia u) t.dQ)/\∀w,rn K B rows t.body w
def C9(K:hM)(B:List cH)(qS:List cN):Prop:=B.length=qS.length/\∀(j:Nat) (u:cH) (t:cN),B[j]?=some u->qS[j]?=some t->ThK K u t
structure DUK(K:hM)(a:DA)(s:gN):Prop where
 pr:∀w,K w->mh w a.pv s.p
 cs:∀w,K w->dC (λ_=>True) w (ia a.cv) (cT s.p)
 ks:∀w,K w->dC (λ_=>True) w (ia a.kv) (cM s.p)
 mem:∀w,K w->Bc a.ov a.fv s.mem w
 rc:∃vD,(∀w,K w->dC (λ_=>True) w (ia a.pv.recover) vD)/\C9 K vD s.p.recover
abbrev yB(K:hM)(room:Int)(s:Ptr)(t:jY):HP:=rG K s.b room t
def gp(K:hM)(p:Nat)(m:gN):HP:=pK λa:DA=>fact (DUK K a m) (sep (bY p (qT a m)) (sep (iN a.q a.ov a.fv m.mem) (sep (bH a.ow m.eV) (sep (bH a.ll a.ps) (g9 (yB K m.room) a.ps m.l)))))
def m6(K:hM)(p:Nat)(m:gN)(i:Nat)(tp:Ptr):HP:=pK λa:DA=>fact (DUK K a m/\a.ps[i]?=some tp/\a.ps.length=m.l.length/\i<m.l.length) (sep (bY p (qT a m)) (sep (iN a.q a.ov a.fv m.mem) (sep (bH a.ow m.eV) (sep (bH a.ll a.ps) (nI (yB K m.room) a.ps m.l i)))))
section
variable {w w' w0:World}{A:Nat->Prop}{R:List HP}{p:Nat}{K:hM}{m:gN}{a:DA}{i:Nat}{tp:Ptr}{t:jY}
theorem gp.open(u:St w0 A (gp K p m::R) w):∃a,DUK K a m/\St w0 A (bY p (qT a m)::iN a.q a.ov a.fv m.mem::bH a.ow m.eV::bH a.ll a.ps::g9 (yB K m.room) a.ps m.l::R) w:=by
 obtain⟨a,u⟩:=u.eh;obtain⟨B,u⟩:=u.mz;exact⟨a,B,sM u⟩
theorem gp.shut(B:DUK K a m)(u:St w0 A (bY p (qT a m)::iN a.q a.ov a.fv m.mem::bH a.ow m.eV::bH a.ll a.ps::g9 (yB K m.room) a.ps m.l::R) w):St w0 A (gp K p m::R) w:=
 St.ek a (St.oy B (sN u))
theorem m6.open(u:St w0 A (m6 K p m i tp::R) w):∃a,(DUK K a m/\a.ps[i]?=some tp/\a.ps.length=m.l.length/\i<m.l.length)/\St w0 A (bY p (qT a m)::iN a.q a.ov a.fv m.mem::bH a.ow m.eV::bH a.ll a.ps::nI (yB K m.room) a.ps m.l i::R) w:=by
 obtain⟨a,u⟩:=u.eh;obtain⟨B,u⟩:=u.mz;exact⟨a,B,sM u⟩
theorem m6.shut(B:DUK K a m/\a.ps[i]?=some tp/\a.ps.length=m.l.length/\i<m.l.length)(u:St w0 A (bY p (qT a m)::iN a.q a.ov a.fv m.mem::bH a.ow m.eV::bH a.ll a.ps::nI (yB K m.room) a.ps m.l i::R) w):St w0 A (m6 K p m i tp::R) w:=
 St.ek a (St.oy B (sN u))
structure aq8(K:hM)(w:World)(p:Nat)(m:gN)(a:DA):Prop where
 uk:DUK K a m
 b:mT w p (qT a m)
 mem:yA w a.q m.mem
 ow:dC (λ_=>True) w a.ow m.eV
 ll:dC (λ_=>True) w a.ll a.ps
 th:∀(i:Nat) (s:Ptr) (t:jY),a.ps[i]?=some s->m.l[i]?=some t->Has (rG K s.b m.room t) w
 len:a.ps.length=m.l.length
theorem gp.rd(h:Has (gp K p m) w)(E:K w):∃a,aq8 K w p m a:=by
 obtain⟨F,u⟩:=h.st
 obtain⟨a,B,u⟩:=gp.open u
 exact⟨a,B,u.hb,JA u.p1 (B.mem _ E),u.p2.dX,u.p3.dX,λi s t h1 h2=>u.p4.ahV h1 h2 (Φ:=λw=>Has (rG K s.b m.room t) w) λh=>⟨_,h⟩,u.p4.iZ⟩
theorem Zt{ps:List Ptr}(B:St w0 A (g9 (yB K m.room) ps m.l::R) w)(u:ps[i]?=some tp)(ht:m.l[i]?=some t):St w0 A (rG K tp.b m.room t::nI (yB K m.room) ps m.l i::R) w:=B.focus u ht
theorem xF(B:St w0 A (rG K tp.b m.room t::m6 K p m i tp::R) w):St w0 A (gp K p {m with l:=m.l.set i t}::R) w:=by
 obtain⟨a,⟨u,G,E,hi⟩,B⟩:=m6.open B.p1
 have h1:St w0 A (yB K m.room tp t::nI (yB K m.room) a.ps m.l i::_) w:=B.p4.p5
 have h2:=h1.Ds hi E G
 have h3:=h2.p4.p4.p4.p4
 exact gp.shut (m:={m with l:=m.l.set i t}) ⟨u.pr,u.cs,u.ks,u.mem,u.rc⟩ h3
end
def sP(m:gN)(t:jY):Bool:=match pf t.cG with
 | none=>false
 | some (x,_,_)=>if t.fault≠0\/x.kind=2 then true else if x.kind=3\/x.kind=5\/x.kind=6\/x.kind=7 then !decide (m.room<=t.buf.length)
  else if x.kind=9/\m.eV.getD (cU (cM m.p) x.name).toNat 0≠-1 then false else decide (t.buf.length=0)
def rH(m:gN)(i:Nat)(t:jY):List aS:=(if sP m t=true then [⟨1,i,0,[]⟩]else [])++(pD t.buf).map λk=>⟨2,i,k,[]⟩
def ij(m:gN)(k:Nat):List aS:=(u3 k).flatMap λi=>match m.l[i]? with|some t=>rH m i t|none=>[]
def gU(m:gN):List aS:=if m.fault≠0 then []else ij m m.l.length
theorem uh{m:gN}{k:Nat}{t:jY}(h:m.l[k]?=some t):ij m (k+1)=ij m k++rH m k t:=by
 unfold ij;rw[I5,Me];simp[h]
def Zu(t:jY):Prop:=t.fault=0->∀x a b,pf t.cG=some (x,a,b)->(2<=x.kind/\x.kind<=10)/\(eI t x.e).2=true/\(eI t x.f).2=true
structure oK(m:gN):Prop where
 mem:wB m.mem
 th:∀t∈m.l,ym (cT m.p) (cM m.p) t
 tl:m.l.length<=1000
 ow:m.eV.length=(cM m.p).length
 rm:1<=m.room/\m.room<=16
 st:∀t∈m.l,Zu t
 pz:PZ m.p
def zR(l:List bI):(pD l).length<=l.length:=by grind[pD]
def Nc(m:gN)(i:Nat)(t:jY):(rH m i t).length<=1+t.buf.length:=by
 have:=zR t.buf
 unfold rH;grind
theorem rI{m:gN}(h:oK m):∀k,(ij m k).length<=k*1001
 | 0=>by simp[ij]
 | k+1=>by
  have u:=rI h k
  cases ht:m.l[k]? with
  | none=>
   have e:ij m (k+1)=ij m k:=by unfold ij;rw[I5,Me];simp[ht]
   grind
  | some t=>
   rw[uh ht,la]
   have:=Nc m k t
   have:=(h.th t (kE ht)).bl
   omega
def FC{m:gN}(h:oK m):(gU m).length<=1001000:=by
 unfold gU;split
 .simp
 exact wS (rI h _) (Nat.mul_le_mul_right 1001 h.tl)
def ik(m:gN)(t:jY)(c:Int):Int:=if (ly t.buf c).isSome=true then(ly t.buf c).getD 0 else jH m.mem c
def dP(m:gN)(x:bQ):Int:=cU (cT m.p) x.name
def fF(m:gN)(x:bQ):Int:=cU (cM m.p) x.name
def fB(m:gN)(x:bQ):Int:=pC m.p (dP m x)
def pZ(m:gN)(t:jY)(y:bI):jY:={t with buf:=sH m.room t.buf y}
def xG(m:gN)(t:jY)(x:bQ):cB:=⟨if (ly t.buf (dP m x)).isSome=true then 2 else 1,0,dP m x,ik m t (dP m x),0⟩
def rJ(m:gN)(t:jY)(x:bQ):gN:=if jH m.mem (dP m x)=(eI t x.e).1 then {m with mem:=fo m.mem (dP m x) (eI t x.f).1}else m
def tL(m:gN)(t:jY)(x:bQ):cB:=if jH m.mem (dP m x)=(eI t x.e).1 then⟨8,0,dP m x,jH m.mem (dP m x),(eI t x.f).1⟩else⟨9,0,dP m x,jH m.mem (dP m x),0⟩
def pE(m:gN)(x:bQ)(i:Int):gN:={m with eV:=m.eV.set (fF m x).toNat i}
def eb(m:gN)(t:jY)(i:Int)(x:bQ):gN×jY×cB:=
 if x.kind=2 then(m,pg t x.eF (ik m t (dP m x)),xG m t x)
 else if x.kind=3 then(m,pZ m t ⟨3,fB m x,dP m x,(eI t x.e).1⟩,⟨3,0,dP m x,(eI t x.e).1,0⟩)
 else if x.kind=5 then(m,pZ m t ⟨5,fB m x,0,0⟩,⟨4,0,fB m x,0,0⟩)
 else if x.kind=6 then(m,pZ m t ⟨6,fB m x,0,0⟩,⟨5,0,fB m x,0,0⟩)
 else if x.kind=7 then(m,pZ m t ⟨7,0,0,0⟩,⟨6,0,0,0,0⟩)
 else if x.kind=8 then(m,t,⟨7,0,0,0,0⟩)
 else if x.kind=4 then(rJ m t x,pg t x.eF (jH m.mem (dP m x)),tL m t x)
 else if x.kind=9 then(pE m x i,t,⟨10,0,fF m x,0,0⟩)
 else(pE m x (-1),t,⟨11,0,fF m x,0,0⟩)
def ui(m:gN)(t:jY)(i:Int)(x:bQ):jY:=goD { (eb m t i x).2.1 with cG:=gB (eb m t i x).2.1.cG}
def iy(m:gN)(i:Int):gN×cB:=match m.l[i.toNat]? with
 | none=>(m,⟨0,0,0,0,0⟩)
 | some t=>if t.fault≠0 then({m with fault:=t.fault,jd:=i},⟨16,i,t.fault,0,0⟩)else match pf t.cG with
  | none=>(m,⟨0,0,0,0,0⟩)
  | some (x,_,_)=>if x.kind=10/\m.eV.getD (fF m x).toNat 0≠i then({m with fault:=3,jd:=i},⟨16,i,3,0,0⟩)
   else({ (eb m t i x).1 with l:=m.l.set i.toNat (ui m t i x)},{ (eb m t i x).2.2 with t:=i})
def tf(m:gN)(t:jY)(q:aS):gN:={m with mem:=jV m.mem (dH t.buf q.i),l:=m.l.set q.t.toNat {t with buf:=jU t.buf q.i}}
def HN(l:List bQ):Bk:=(tc l).getD .nil
def wq(t:cN):jY:=⟨t.dQ,r6 t.dQ.length 0,jt (HN t.body) false [],0,[]⟩
def UA(t:cN):jY:=goD (wq t)
def qU(m:gN)(l:List cN):gN:={m with eV:=r6 (cM m.p).length (-1),l:=l.map UA}
def iT(m:gN)(q:aS):Option (List Int):=if q.kind=3/\q.t=0/\q.i=0/\m.fault=0 then fD m.mem q.cut else none
def pj(m:gN)(u:List Int):gN:={m with mem:=mJ m.mem u,bZ:=m.bZ+1}
def u5(m:gN):List cN:=if m.p.recover.length=0 then [⟨⟨#[]⟩,[],[],0⟩]else m.p.recover
def n8(m:gN)(q:aS):gN×cB×Int:=match iT m q with
 | some u=>(qU (pj m u) (u5 m),⟨15,0,0,qI q.cut q.cut.length,0⟩,0)
 | none=>if (gU m).any (nd q)=true then
   (if q.kind=2 then(match m.l[q.t.toNat]? with|some t=>(tf m t q,td q.t (dH t.buf q.i),0)|none=>(m,⟨0,0,0,0,0⟩,13))else((iy m q.t).1,(iy m q.t).2,0))
  else(m,⟨0,0,0,0,0⟩,13)
def mM(t:jY):Bool:=decide (t.cG.length=0)&&decide (t.buf.length=0)
def lB(m:gN):Bool:=decide (m.fault=0)&&!(u3 m.l.length).any λi=>match m.l[i]? with|some t=>!mM t|none=>false
def mN(m:gN):Bool:=decide (m.fault=0)&&(!lB m&&decide (((gU m).length:Int)=0))
def iU(m:gN):hG:=⟨m.bZ,m.fault,m.jd,lB m,mN m⟩
def pk(m:gN)(c:gS):Bool:=decide ((pR (gn m.p) (m.mem.l.take (ey m.p).toNat) c.e).2=0)&&decide ((pR (gn m.p) (m.mem.l.take (ey m.p).toNat) c.e).1≠0)
def fe(m:gN):List Bool:=m.p.dS.map (pk m)
def Be(p:cE):List Int:=(u3 (cT p).length).map fun (i:Nat)=>pC p (i:Int)
def xH(p:cE)(room:Int):gN:=⟨p,room,JC (Be p) (ey p) (eW p),[],[],0,0,0⟩
def gY(p:cE)(room:Int):gN:=qU (xH p room) p.threads
def C141(K Φ:hM)(p:Nat)(room:Int)(t:jY)(w:World)(G:Has (eR K Φ p room t) w)(U:t.buf.length<=1000):CR 141 [.pointer (some ⟨p,0,none⟩)] w (λv w'=>v=.bool (decide (t.buf.length=0))/\Ext w w'):=by
 obtain⟨E,M,rg,pl,es,Y,I,J,O,V,W,_⟩:=eR.rd G;have B:=I.cell (o:=0) rfl;have u:=St.start w;refine fg Tryz.func141 ?_;exact aE (aA oT (bO Aq (B.ext u.aG) (dY amT u (C153 E _ _ _ (J.ext u.aG) cK) λ_ _ _ u=>aK fT u.dX (aH ⟨vb (ga.2 cK),u.drop.aG⟩))))
def C138(K Φ:hM)(p:Nat)(m:gN)(q:Nat)(t:jY)(w:World)(hm:Has (gp K p m) w)(I:∀w',Ext w w'->K w')(O:oK m)(hh:Has (eR K Φ q m.room t) w)(Cl:t∈m.l):CR 138 [.pointer (some ⟨p,0,none⟩),.pointer (some ⟨q,0,none⟩)] w (λv w'=>v=.bool (sP m t)/\Ext w w'):=by
 obtain⟨a,J⟩:=gp.rd hm (I _ (Ext.refl _));have W:=J.b.cell (o:=7) rfl;have Gy:=J.b.cell (o:=10) rfl;have G:=O.th t Cl;have Hc:=G.bl;have ajH:(cM m.p).length<=500:=by unfold cM;rw[n0];exact O.pz.eJ
 have oG:=DF G.p;have EZ:=G.cl;obtain⟨bp,nv,rg,pl,es,hk,V,hB,Da,Uz,JG,_⟩:=eR.rd hh;have ct0:=V.cell (o:=0) rfl;have M:=V.cell (o:=4) rfl;have u:=St.start w;refine oM Tryz.func138 (pl:=axH) ?_;refine dO Zh (C137 K q t bp nv rg pl es _ _ V Uz JG I G.p cK) ?_;rintro v _ ⟨he,hv⟩;have u:=u.ext he
 rcases hv with⟨eG,rfl⟩|⟨x,xa,xb,xv,av,bv,ra,rb,Cj,rfl,z9,_⟩
 .exact aO rfl (aO rfl (aO rfl (aO rfl (aM u jy λ_ _ u=>aI (x:=(⟨0,⟨#[]⟩,⟨#[]⟩,bX,bX,0,0,0,0⟩:bE)) u eM rfl rfl λ_ u=>bR (iz ⟨vb (by unfold sP;rw[eG]),u.drop.aG⟩)))))
 obtain⟨ge,gf,rfl,_,_⟩:=ji (z9 _ (I _ u.aG));have hx:=(G.top Cj).1;have B:sP m t=(if t.fault≠0\/x.kind=2 then true else if x.kind=3\/x.kind=5\/x.kind=6\/x.kind=7 then !decide (m.room<=t.buf.length)else if x.kind=9/\m.eV.getD (cU (cM m.p) x.name).toNat 0≠-1 then false else decide (t.buf.length=0)):=by unfold sP;rw[Cj]
 refine aO rfl (aO rfl (aO rfl (aO rfl (aM u jy λb5 w2 u=>aI (x:=(⟨x.kind,x.eF,x.name,ge,gf,x.n,x.body,x.eu,x.at_⟩:bE)) u eM rfl rfl λw3 u=>bR (ft ?_)))));refine⟨λE w'=>E=.bool (decide (t.fault≠0\/x.kind=2))/\w'=w3,?_,?_⟩
 .exact aE (aA wP (bO bM (M.ext u.aG) (bV (aC (λ_=>⟨vb (ez cK).symm,rfl⟩) λ_=>aA dM (aB (v:=hZ x.kind) bM u.hb rfl (aH ⟨vb (ga.2 cK),rfl⟩))))))
 rintro _ w4 ⟨rfl,rfl⟩ _;refine aC (λY=>?_) (λY=>?_)
 .exact⟨vb (by rw[B,ew Y]),u.drop.aG⟩
 rw[ej Y]at B;refine⟨λE w'=>E=.bool (decide (x.kind=3\/x.kind=5\/x.kind=6\/x.kind=7))/\w'=w4,?_,?_⟩
 .refine aA dM (aB (v:=hZ x.kind) bM u.hb rfl ?_);exact aH (aC (λ_=>⟨vb (ez cK).symm,rfl⟩) λ_=>aA dM (aB (v:=hZ x.kind) bM u.hb rfl (aH (aC (λ_=>⟨vb (ez cK).symm,rfl⟩) λ_=>aA dM (aB (v:=hZ x.kind) bM u.hb rfl (aH (aC (λ_=>⟨vb (ez cK).symm,rfl⟩) λ_=>aA dM (aB (v:=hZ x.kind) bM u.hb rfl (aH ⟨vb (ga.2 cK),rfl⟩)))))))))
 rintro _ _ ⟨rfl,rfl⟩ _;refine aC (λZ=>?_) (λZ=>?_)
 .exact aE (aA oT (bO Aq (ct0.ext u.aG) (aV afF u (C215 bp _ _ _ (hB.ext u.aG)) λ_ _ u=>bR ⟨vb (by rw[B,ew Z]),u.drop.aG⟩)))
 rw[ej Z]at B;refine⟨λE w'=>E=.bool (decide (x.kind=9/\m.eV.getD (cU (cM m.p) x.name).toNat 0≠-1))/\St w aZ [bY b5 (j0 (⟨x.kind,x.eF,x.name,ge,gf,x.n,x.body,x.eu,x.at_⟩:bE))] w',?_,?_⟩
 .have u:=u.drew;refine aA dM (aB (v:=hZ x.kind) bM u.hb rfl (aH (aC (λc3=>?_) λ_=>⟨vb (fN cK).symm,u⟩)));obtain⟨j,hj,B7,_⟩:=lX (dJ.1 (hx.lk (.inl c3)));have D3:=(kp.1 B7).1;have how:=O.ow;refine aE (aA vm (bO eg (Gy.ext u.aG) (aE (aA IU (bO jk (W.ext u.aG) (aA fZ (aB (v:=.string x.name) gw u.hb rfl (aV Hp u (C159 _ (cM m.p) x.name _ (J.uk.ks _ (I _ u.aG)) cK) λ_ he u=>?_))))))));refine⟨aF eg (Gy.ext u.aG),?_⟩;obtain⟨ov,Zv⟩:=gx m.eV (i:=(cU (cM m.p) x.name).toNat) cK
  refine aQ cS (J.ow.ext u.aG) cK Zv (λq71 U=>aD bM U (bV ?_));refine⟨vb (ga.2 ?_),u⟩;rw[og,Zv];exact⟨λh=>⟨c3,h⟩,λh=>h.2⟩
 rintro _ _ ⟨rfl,u⟩ _;refine aC (λc4=>?_) (λc4=>?_)
 .exact⟨vb (by rw[B,ew c4]),u.drop.aG⟩
 exact aV agU u (C141 K Φ q m.room t _ (hh.ext u.aG) Hc) (λ_ _ u=>⟨vb (by rw[B,ej c4]),u.drop.aG⟩)
def C67(K:hM)(p:Nat)(m:gN)(w:World)(hm:Has (gp K p m) w)(Y:∀w',Ext w w'->K w')(I:oK m):CR 67 [.pointer (some ⟨p,0,none⟩)] w (λv w'=>lh (fU v (gU m)) w w'):=by
 obtain⟨a,E⟩:=gp.rd hm (Y _ (Ext.refl _));have FD:=E.b.cell (o:=11) rfl;have UB:=E.b.cell (o:=13) rfl;have hlen:=E.len;have N9:=I.tl;have u:=St.start w;refine fg Tryz.func67 ?_;refine aE (aA ya (bO bM (UB.ext u.aG) (bV (aC (λc=>?_) λc=>?_))))
 .have B:gU m=[]:=by unfold gU;rw[ew c]
  rw[B];exact u.I1.fresh
 have B:gU m=ij m m.l.length:=by unfold gU;rw[ej c]
 rw[B];refine aE (aA vn (bO IS (FD.ext u.aG) (aK La (E.ll.ext u.aG) ?_)));refine⟨λG o y J=>∃k:Nat,y=hZ (k:Int)/\G=a.ps.length-k/\k<=a.ps.length/\St w aZ [fU o (ij m k)] J,⟨_,0,rfl,rfl,l1 _,u.I1⟩,?_⟩;rintro G o _ J ⟨k,rfl,rfl,hk,u⟩ _;have oG:=rI I k;have Rh:k*1001<=1001000:=cK
 refine aR (aC (λc1=>?_) λc1=>?_);rotate_left
 .rw[show k=m.l.length from cK]at u;exact u.fresh
 obtain⟨e,M⟩:=gx a.ps (i:=((k:Nat):Int).toNat) cK;obtain⟨t,ht⟩:=gx m.l (i:=k) cK;have Z:=kE ht;have Hc:=(I.th t Z).bl;have Vy:=E.th k e t M ht;obtain⟨bp,nv,rg,pl,es,Kg,sO,hB,Da,Uz,JG,_⟩:=eR.rd Vy;have U:=sO.cell (o:=0) rfl;refine aQ La (E.ll.ext u.aG) cK M (λq V=>aD G4 V ?_);refine⟨λjv w'=>St w aZ [fU jv (ij m k++(if sP m t=true then [(⟨1,k,0,[]⟩:aS)]else []))] w',?_,?_⟩
 .refine aV aqY u (C138 K _ p m e.b t _ (hm.ext u.aG) (λ_ e=>Y _ (u.aG.then e)) I (Vy.ext u.aG) Z) (λ_ M u=>aY (λO=>?_) λO=>?_)
  .refine pop (Ck 1 (k:Int)) (have u:=u.fu (Φ:=λw=>mh w (⟨1,(k:Int),0,bX⟩:aJ) (⟨1,(k:Int),0,[]⟩:aS)) (λw=>⟨bX,rfl,DL.nil w⟩);gh (x:=(⟨1,(k:Int),0,[]⟩:aS)) (s:=(⟨1,(k:Int),0,bX⟩:aJ)) u gg ee λs29 _ u=>gi u.p1 gg (by rw[mv];omega) ee λs30 _ u=>?_);rw[ew O];exact u
  rw[ej (by rw[O];decide),pL];exact u
 rintro o2 _ u _;refine aE (aA oT (bO Aq (U.ext u.aG) (dY amP u (C139 bp _ _ _ (hB.ext u.aG) cK) λKl _ cL u=>?_)));have EZ:=zR t.buf;refine aK cS u.dX ?_;refine⟨λG o y J=>∃j:Nat,y=hZ (j:Int)/\G=(pD t.buf).length-j/\j<=(pD t.buf).length/\St w aZ [fU o (ij m k++(if sP m t=true then [(⟨1,k,0,[]⟩:aS)]else [])++((pD t.buf).take j).map λi=>(⟨2,k,i,[]⟩:aS)),bH Kl (pD t.buf)] J,⟨_,0,rfl,rfl,l1 _,by rw[List.take_zero,List.map_nil,pL];exact u.p1⟩,?_⟩;rintro G o3 _ _ ⟨j,rfl,rfl,hj,u⟩ _;refine aR (aC (λc3=>?_) λc3=>?_)
 .obtain⟨y,W⟩:=gx (pD t.buf) (i:=((j:Nat):Int).toNat) cK;exact aQ cS u.p1.dX cK W (λ_ V=>aD bM V (pop (CN 2 (k:Int) y) (have u:=u.fu (Φ:=λw=>mh w (⟨2,(k:Int),y,bX⟩:aJ) (⟨2,(k:Int),y,[]⟩:aS)) (λw=>⟨bX,rfl,DL.nil w⟩);gh (x:=(⟨2,(k:Int),y,[]⟩:aS)) (s:=(⟨2,(k:Int),y,bX⟩:aJ)) u gg ee λ_ _ u=>gi u.p1 gg (by simp only[la,n0,l0,mv];split<;>simp<;>omega) ee λ_ _ u=>aN cK ⟨_,cK,j+1,rfl,rfl,cK,by rw[<- gd (k:=j) W,<- n3];exact u⟩)))
 rw[kO cK]at u;refine aN cK ?_;refine⟨_,cK,k+1,rfl,rfl,cK,?_⟩;rw[uh ht];unfold rH;rw[<- n3];exact u.p1.drop
def agY:PL 227:=dK Tryz.func227
def axR:PL 53:=dK Tryz.func53
def C158(K:hM)(p:Nat)(m:gN)(i kind:Int)(F:Nat->Prop)(w:World)(E:(gp K p m).p w F):CR 158 [.pointer (some ⟨p,0,none⟩),hZ i,hZ kind] w (λv w'=>v=ia (⟨16,i,kind,0,0⟩:cB)/\mR F (gp K p {m with fault:=kind,jd:=i}) w w'):=by
 have u:=St.begin E;refine fg Tryz.func158 ?_;obtain⟨a,B,u⟩:=gp.open u;exact aM u mu (λ_ _ u=>have u:=u.enc (cs':=j0 (⟨0,0,0,0,0⟩:cB)) rfl;aE (aA ya (aT u.p1 bM (dL rfl) rfl λ_ u=>aE (aA RF (aT u bM (dL rfl) rfl λ_ u=>pop (tK 16 i kind) (aI (x:=(⟨16,i,kind,0,0⟩:cB)) u.p1 fj rfl rfl λ_ u=>aD fj u.At ⟨rfl,(gp.shut (m:={m with fault:=kind,jd:=i}) ⟨B.pr,B.cs,B.ks,B.mem,B.rc⟩ u.drop).mut⟩))))))
def C160(K:hM)(p:Nat)(m:gN)(n:Nat)(tp:Ptr)(t:jY)(x:bQ)(Z:bE)(F:Nat->Prop)(c:Int)(w:World)(hF:(sep (rG K tp.b m.room t) (m6 K p m n tp)).p w F)(G:∀w',gv F w w'->K w')(J:ym (cT m.p) (cM m.p) t)(E:wB m.mem)(z9:∀w,K w->mh w Z x)(Da:0<=cU t.names x.eF):CR 160 [.pointer (some ⟨p,0,none⟩),.pointer (some ⟨tp.b,0,none⟩),ia Z,hZ c] w (λv w'=>v=ia (⟨if (ly t.buf c).isSome=true then 2 else 1,0,c,ik m t c,0⟩:cB)/\mR F (sep (rG K tp.b m.room (pg t x.eF (ik m t c))) (m6 K p m n tp)) w w'):=by
 have u:=(St.begin hF).split;obtain⟨U,V,rfl,_,_⟩:=ji (z9 _ (G _ u.aG));obtain⟨j,hj,B7,_⟩:=lX (dJ.1 Da);have D3:=(kp.1 B7).1;have Zj:=J.nb;have Gw:=J.rl;have Hc:=J.bl;refine aec _ _ _ _ _ _ ?_;unfold S160;refine cI (x:=(⟨x.kind,x.eF,x.name,U,V,x.n,x.body,x.eu,x.at_⟩:bE)) u (λb6 _ u=>aM u mu λb8 _ u=>?_);have u:=(u.enc (cs':=j0 (⟨0,0,0,0,0⟩:cB)) rfl).p2;obtain⟨B,nv,rg,pl,es,Y,u⟩:=eR.open u;refine aE (aA oT (aB Aq u.hb rfl (aV am4 u (C226 B c m.room t.buf _ (DE u.p1) cK) λ_ he u=>aO rfl (aO rfl ?_))))
 refine⟨λn9 I w'=>n9=hZ (ik m t c)/\I=hZ (if (ly t.buf c).isSome=true then 2 else 1)/\St w F [bY tp.b (Bd B nv rg pl t.fault),jl B m.room t.buf,bH rg t.dQ,bH pl (Oh es),eD (λw=>DH K w es t.cG/\True),bY b8 (j0 (⟨0,0,0,0,0⟩:cB)),bY b6 (j0 (⟨x.kind,x.eF,x.name,U,V,x.n,x.body,x.eu,x.at_⟩:bE)),m6 K p m n tp] w',?_,?_⟩
 .refine bR (aY (λM=>?_) λM=>?_)
  .have h1:(ly t.buf c).isSome=false:=by simpa using M
   have u:=u.p7;obtain⟨a,W,u⟩:=m6.open u;exact aE (aA tu (aB KZ u.hb rfl (aV agY u (agR a.q m.mem c _ (JA u.p1 (W.1.mem _ (G _ u.aG))) E) λ_ _ u=>aO rfl (aO rfl (have u:=(((((((m6.shut (m:=m) W u.p4.p4.p4.p4.p4).p7).p7).p7).p7).p7).p7).p7;⟨by unfold ik;rw[ej (by rw[h1];decide)],by rw[ej (by rw[h1];decide)],u⟩)))))
  have h1:(ly t.buf c).isSome=true:=by simpa using M
  exact⟨by unfold ik;rw[ew h1],by rw[ew h1],u⟩
 rintro _ _ _ ⟨rfl,rfl,u⟩ _;have u:=u.drew;refine aE (aA Aw (aB eg u.hb rfl (aE (aA Av (aB jk u.hb rfl (aA iH (aB (v:=.string x.eF) gw u.p6.hb rfl (aV Hp u (C159 _ t.names x.eF _ (Y _ (G _ u.aG)) cK) λ_ he u=>?_))))))));refine⟨aF eg (u.hb.cell rfl),?_⟩;exact dR u.p2 cS cK cK (λ_ O=>ju (ik m t c:Int) u.p2 bM O cK λ_ u=>pop (mL (if (ly t.buf c).isSome=true then 2 else 1) c (ik m t c)) (aI (x:=(⟨if (ly t.buf c).isSome=true then 2 else 1,0,c,ik m t c,0⟩:cB)) u.p5 fj rfl rfl λ_ u=>aD fj u.At (have u:=eR.shut (Φ:=λ_=>True) (t:=pg t x.eF (ik m t c)) Y u.drop.p5.drop.p4.p4.p2.p4.p4;have u:=u.p1.p1;⟨rfl,(St.join u).mut⟩)))
def C163(K:hM)(p:Nat)(m:gN)(n:Nat)(tp:Ptr)(t:jY)(x:bQ)(xv:bE)(F:Nat->Prop)(w:World)(hF:(sep (rG K tp.b m.room t) (m6 K p m n tp)).p w F)(E:∀w',gv F w w'->K w')(kC:ym (cT m.p) (cM m.p) t)(J:wB m.mem)(z9:∀w,K w->mh w xv x)(Da:0<=cU t.names x.eF)(rp:MB m.mem 1000000)(Vv:x.e.length<=1000/\x.f.length<=1000)(hv1:(eI t x.e).2=true)(hv2:(eI t x.f).2=true):CR 163 [.pointer (some ⟨p,0,none⟩),.pointer (some ⟨tp.b,0,none⟩),ia xv,hZ (dP m x)] w (λv w'=>v=ia (tL m t x)/\mR F (sep (rG K tp.b m.room (pg t x.eF (jH m.mem (dP m x)))) (m6 K p (rJ m t x) n tp)) w w'):=by
 have u:=(St.begin hF).split;obtain⟨V,W,rfl,_,_⟩:=ji (z9 _ (E _ u.aG))
 have Qf:∀w,K w->dC (λ_=>True) w (ia V) x.e/\dC (λ_=>True) w (ia W) x.f:=λw Z=>by
  obtain⟨_,_,h4,h5,h6⟩:=ji (z9 w Z);cases h4
  exact⟨h5,h6⟩
 obtain⟨j,hj,B7,_⟩:=lX (dJ.1 Da);have D3:=(kp.1 B7).1;have Zj:=kC.nb;have Gw:=kC.rl;have Y:{t with fault:=if (eI t x.e).2=true then t.fault else 2}=t:=by rw[hv1];rfl
 have ht2:{t with fault:=if (eI t x.f).2=true then t.fault else 2}=t:=by rw[hv2];rfl
 obtain⟨c,hc⟩:∃c,c=dP m x:=⟨_,rfl⟩;rw[<- hc];refine aed _ _ _ _ _ _ ?_;unfold S163;refine cI (x:=(⟨x.kind,x.eF,x.name,V,W,x.n,x.body,x.eu,x.at_⟩:bE)) u (λb6 _ u=>aM u mu λb8 _ u=>?_);have u:=(u.enc (cs':=j0 (⟨0,0,0,0,0⟩:cB)) rfl).p3;obtain⟨a,B,u⟩:=m6.open u;refine aE (aA tu (aB KZ u.hb rfl (aV agY u (agR a.q m.mem c _ (JA u.p1 (B.1.mem _ (E _ u.aG))) J) λ_ he u=>aO rfl (aO rfl (aA iX (aB (v:=ia V) jx u.p6.hb rfl (have u:=u.p7;bF MW u (H':=λ_=>rG K tp.b m.room t) (Φ:=λv _=>v=.tuple #[hZ (eI t x.e).1,.bool (eI t x.e).2]) (λI U M=>?_) ?_)))))))
 .have:=C161 K _ tp.b m.room t I _ x.e _ U (λw' hc=>E w' (M w' hc).aG) (Qf _ (E _ u.aG)).1 cK cK;rw[Y]at this;exact this
 rintro _ _ rfl u;refine aO rfl (aO rfl (aA j6 (aB (v:=ia W) jx u.p7.hb rfl (bF MW u (H':=λ_=>rG K tp.b m.room t) (Φ:=λv _=>v=.tuple #[hZ (eI t x.f).1,.bool (eI t x.f).2]) (λI U M=>?_) ?_))))
 .have:=C161 K _ tp.b m.room t I _ x.f _ U (λw' hc=>E w' (M w' hc).aG) (Qf _ (E _ u.aG)).2 cK cK;rw[ht2]at this;exact this
 rintro _ _ rfl u;refine aO rfl (aO rfl ?_);obtain⟨bp,nv,rg,pl,es,hk,u⟩:=eR.open u;have u:=u.drew;refine aE (aA Aw (aB eg u.hb rfl (aE (aA Av (aB jk u.hb rfl (aA iH (aB (v:=.string x.eF) gw u.p11.hb rfl (aV Hp u (C159 _ t.names x.eF _ (hk _ (E _ u.aG)) cK) λ_ he u=>?_))))))));refine⟨aF eg (u.hb.cell rfl),?_⟩;refine dR u.p2 cS cK cK (λ_ axT=>ju (jH m.mem c:Int) u.p2 bM axT cK λw6' u=>have u:=eR.shut (Φ:=λ_=>True) (t:=pg t x.eF (jH m.mem c)) hk u.p4.p4.p2.p4.p4;bV (aC (λO=>?_) λO=>?_))
 .have G:rJ m t x=m:=by unfold rJ;rw[<- hc,ej O]
  have zP:tL m t x=⟨9,0,c,jH m.mem c,0⟩:=by unfold tL;rw[<- hc,ej O]
  refine pop (mL 9 c (jH m.mem c)) (aI (x:=(⟨9,0,c,jH m.mem c,0⟩:cB)) u.p6 fj rfl rfl λ_ u=>aD fj u.At ?_);have u:=(m6.shut (m:=m) B u.drop.p6.drop.p5.p5.p5.p5.p5).p1;rw[G,zP];exact⟨rfl,(St.join u).mut⟩
 have G:rJ m t x={m with mem:=fo m.mem c (eI t x.f).1}:=by unfold rJ;rw[<- hc,ew (by simpa using O)]
 have zP:tL m t x=⟨8,0,c,jH m.mem c,(eI t x.f).1⟩:=by unfold tL;rw[<- hc,ew (by simpa using O)]
 refine aE (aA tu (aB KZ u.p1.hb rfl (have u:=u.p2;bF afA u (H':=λ_=>iN a.q a.ov a.fv (fo m.mem c (eI t x.f).1)) (Φ:=λ_ _=>True) (λI U M=>?_) ?_)))
 .exact(C156 a.q a.ov a.fv m.mem I c _ _ U (λw' hc=>B.1.mem _ (E w' (M w' hc).aG)) J rp).mono λ_ _ r=>r.mono λ_ _ h=>⟨trivial,h.2⟩
 rintro _ _ _ u;refine pop (yZ 8 c (jH m.mem c) (eI t x.f).1) (aI (x:=(⟨8,0,c,jH m.mem c,(eI t x.f).1⟩:cB)) u.p6 fj rfl rfl λ_ u=>aD fj u.At ?_);have u:=m6.shut (m:={m with mem:=fo m.mem c (eI t x.f).1}) (⟨⟨B.1.pr,B.1.cs,B.1.ks,λw Z=>(B.1.mem w Z).write,B.1.rc⟩,B.2⟩) u.drop.p6.drop.p5.p5.p5.p3.p5;have u:=u.p1;rw[G,zP];exact⟨rfl,(St.join u).mut⟩
def C87(cv:Value)(cut:List Int)(w:World)(I:dC (λ_=>True) w cv cut)(O:cut.length<=1000000):CR 87 [cv] w (λv w'=>v=hZ (qI cut cut.length)/\Ext w w'):=by
 have u:=St.start w;refine ajD _ _ _ ?_;unfold S87;refine aK cS (I.ext u.aG) ?_;refine⟨λE n x G=>∃k:Nat,n=hZ (qI cut k)/\x=hZ (k:Int)/\E=cut.length-k/\k<=cut.length/\St w aZ [] G,⟨_,0,rfl,rfl,rfl,l1 _,u⟩,?_⟩;rintro E _ _ G ⟨k,rfl,rfl,rfl,U,u⟩ _;refine aR (aC (λV=>?_) λ_=>⟨by rw[show cut.length=k from cK],u.aG⟩);obtain⟨B,J⟩:=gx cut (i:=(k:Int).toNat) cK;exact aQ cS I cK J (λ_ M=>aD bM (M.ext u.aG) (wV (uI (aN cK ⟨_,cK,k+1,by rw[Fy (k:=k) J],rfl,rfl,cK,u⟩))))
def C88(q x:aS)(V:aJ)(b:Nat)(W:aJ)(w:World)(hq:mh w V q)(B:At (λ_=>True) w (.pointer (some ⟨b,0,none⟩)) W)(G:mh w W x):CR 88 [ia V,(.pointer (some ⟨b,0,none⟩))] w (λv w'=>v=.bool (nd x q)/\Ext w w'):=by
 obtain⟨E,rfl,Z⟩:=hq;obtain⟨M,rfl,O⟩:=G;have u:=St.start w;refine fg Tryz.func88 ?_;refine cI u (λJ _ u=>⟨λY w'=>Y=.bool (nd x q)/\St w aZ [bY J (j0 (⟨q.kind,q.t,q.i,E⟩:aJ))] w',?_,?_⟩)
 .refine aA mW (aB (v:=hZ q.kind) bM u.hb rfl (bW x.kind mW B rfl rfl λ_ U=>aD bM (U.ext u.aG) (aH (aC (λgE=>aA lE (aB (v:=hZ q.t) bM u.hb rfl (bW x.t lE B rfl rfl λ_ XJ=>aD bM (XJ.ext u.aG) (aH (aC (λjF=>aA qg (aB (v:=hZ q.i) bM u.hb rfl (bW x.i qg B rfl rfl λ_ lS=>aD bM (lS.ext u.aG) (aH (aC (λkT=>?_) λ_=>⟨vb (by unfold nd;first|(simp_all;done)|grind),u⟩))))) λ_=>⟨vb (by unfold nd;first|(simp_all;done)|grind),u⟩))))) λ_=>⟨vb (by unfold nd;first|(simp_all;done)|grind),u⟩))))
  refine bW M ma B rfl rfl (λ_ wY=>aD eg (wY.ext u.aG) ?_);have I:=DL.flat O;exact aK cS (I.ext u.aG) (aH ⟨vb (by unfold nd;first|(simp_all;done)|grind),u⟩)
 rintro _ _ ⟨rfl,u⟩ _;exact⟨rfl,u.drop.aG⟩
theorem mT.ext{w w':World}{b:Nat}{cs:List Value}(h:mT w b cs)(e:Ext w w'):mT w' b cs:=h.of_eq (e.bY b h.lt λh=>h)
def Cm(s:ByteArray)(a:Int)(t:ByteArray):Bool:=decide (a+t.size<=s.size)&&decide (s.extract a.toNat (a+t.size).toNat=t)
def whF(p:UInt8->Bool)(s:ByteArray):Nat->Nat->Nat
 | 0,a=>a
 | n+1,a=>match (iQ s)[a]? with
  | some c=>if p c=true then whF p s n (a+1)else a
  | none=>a
def wx(p:UInt8->Bool)(s:ByteArray)(a:Nat):Nat:=whF p s (s.size-a) a
section
variable {p:UInt8->Bool}{s:ByteArray}{k:Nat}{c:UInt8}
theorem JL(h:s.size<=k):wx p s k=k:=by unfold wx;simp_all[whF]
theorem qV(h:(iQ s)[k]?=some c):k<s.size:=by have:=(kp.1 h).1;rw[eY]at this;exact this
theorem FE(h:(iQ s)[k]?=some c)(B:p c=true):wx p s k=wx p s (k+1):=by
 have u:=qV h
 unfold wx
 rw[show s.size-k=(s.size-(k+1))+1 from cK,whF,h]
 grind
theorem FG(h:(iQ s)[k]?=some c)(B:p c=false):wx p s k=k:=by
 have u:=qV h
 unfold wx
 rw[show s.size-k=(s.size-(k+1))+1 from cK,whF,h]
 grind
end
def um(c:UInt8):Bool:=decide (c.toNat=32\/c.toNat=9\/c.toNat=10\/c.toNat=13)
def xI(c:UInt8):Bool:=decide (c.toNat≠10)
def sQ(c:UInt8):Bool:=gA c.toNat||kq c.toNat
def wy(c:UInt8):Bool:=kq c.toNat
def lC(s:ByteArray):Nat->Nat->Option Nat
 | 0,_=>none
 | n+1,a=>match (iQ s)[a]? with
  | none=>some a
  | some c=>if um c=true then lC s n (a+1)else if Cm s a ⟨#[47,47]⟩=true then lC s n (wx xI s a)else some a
theorem Qg{s:ByteArray}{n a r:Nat}(h:lC s n a=some r):∃k,n=k+1:=by
 cases n with
 | zero=>cases h
 | succ k=>grind
section
variable {s:ByteArray}{n a r:Nat}{c:UInt8}
theorem UC(h:lC s (n+1) a=some r)(u:s.size<=a):r=a:=by
 unfold lC at h;rw[m4 (by rw[eY];exact u)]at h;grind
theorem CO(h:lC s (n+1) a=some r)(hc:(iQ s)[a]?=some c)(hb:um c=true):lC s n (a+1)=some r:=by
 grind[lC]
theorem HO(h:lC s (n+1) a=some r)(hc:(iQ s)[a]?=some c)(hb:um c=false)(u:Cm s a ⟨#[47,47]⟩=true):lC s n (wx xI s a)=some r:=by
 grind[lC,wx,xI]
theorem Nd(h:lC s (n+1) a=some r)(hc:(iQ s)[a]?=some c)(hb:um c=false)(u:Cm s a ⟨#[47,47]⟩=false):r=a:=by
 unfold lC at h;grind
theorem Zx:∀(n a:Nat) (p:UInt8->Bool),a<=whF p s n a/\whF p s n a<=max a s.size
 | 0,a,p=>⟨o6 _,by unfold whF;omega⟩
 | n+1,a,p=>by
  unfold whF
  cases h:(iQ s)[a]? with
  | none=>grind
  | some c=>
   dsimp only
   split
   .have:=Zx n (a+1) p;have:=qV h;omega
   omega
theorem Qh(p:UInt8->Bool):a<=wx p s a/\wx p s a<=max a s.size:=Zx _ _ _
theorem Bf:∀{n a r:Nat},lC s n a=some r->a<=s.size->a<=r/\r<=s.size
 | 0,_,_,h,_=>by cases h
 | n+1,a,r,h,u=>by
  cases hc:(iQ s)[a]? with
  | none=>unfold lC at h;grind
  | some c=>
   have B:=qV hc
   cases hb:um c with
   | true=>have:=Bf (CO h hc hb) cK;omega
   | false=>
    cases hr:Cm s a ⟨#[47,47]⟩with
    | true=>have h1:=Qh (s:=s) (a:=a) xI;have:=Bf (HO h hc hb hr) cK;omega
    | false=>have:=Nd h hc hb hr;omega
end
def Db:List ByteArray:=[⟨#[61,61]⟩,⟨#[33,61]⟩,⟨#[60,61]⟩,⟨#[38,38]⟩,⟨#[124,124]⟩]
def qM(s:ByteArray)(a:Nat)(c:UInt8):Int:=if Db.any (Cm s a)=true then 2 else if (iQ (kh #[40,41,123,125,59,44,61,60,33,43,45,42,47,37])).any (λx=>decide ((x.toNat:Int)=c.toNat))=true then 1 else 0
def tM(l:List bT)(i:Int)(t:ByteArray):Bool:=decide (0<=i)&&(match l[i.toNat]? with|some x=>decide (x.text=t)&&decide (x.kind≠2)&&decide (1<=x.kind)&&decide (x.kind<=3)|none=>false)
def nt(l:List bT)(i:Int):Int:=match (if 0<=i then l[i.toNat]? else none)with
 | some x=>x.at_
 | none=>match l.getLast? with
  | some x=>x.at_+x.text.size
  | none=>0
def aei:∀t∈Db,t.size<=1000000:=ee
def sR{l:List bT}{i:Int}{t:ByteArray}(h:tM l i t=true):0<=i/\i<l.length:=by
 unfold tM at h
 grind
def C254(s t:ByteArray)(i:Int)(w:World)(J:s.size<=1000000)(E:t.size<=1000000)(I:0<=i/\i<=2000000):CR 254 [.string s,hZ i,.string t] w (λv w'=>v=.bool (Cm s i t)/\Ext w w'):=by
 have u:=St.start w;refine fg Tryz.func254 ?_;refine⟨λB w'=>B=.bool (Cm s i t)/\w=w',fk il (aN cK (fk il (iE (aC (λ_=>fk il (aN cK (Lt il cK cK cK (jI ⟨vb (by unfold Cm;grind),rfl⟩)))) λ_=>⟨vb (by unfold Cm;grind),rfl⟩)))),?_⟩;rintro _ _ ⟨rfl,G⟩ _;subst G;exact⟨rfl,u.aG⟩
theorem C205(s:ByteArray)(i N r:Nat)(w:World)(hz:s.size<=4000)(h0:i<=s.size)(hr:lC s N i=some r):CR 205 [.string s,hZ (i:Int)] w (λv w'=>v=hZ (r:Int)/\Ext w w'):=by
 have hz0:=hz;replace hz:s.size<=1000000:=cK
 have u:=St.start w;refine fg Tryz.func205 ?_;refine⟨λE x G=>∃a:Nat,x=hZ (a:Int)/\a<=s.size/\lC s E a=some r/\St w aZ [] G,⟨N,i,rfl,h0,hr,u⟩,?_⟩;rintro E _ G ⟨a,rfl,ha,M,u⟩ _;obtain⟨k,rfl⟩:=Qg M;refine fk il (aR (aC (λjJ=>?_) λjJ=>?_))
 .obtain⟨XE,I⟩:∃xx,(iQ s)[(a:Int).toNat]?=some xx:=⟨_,kX (by rw[eY];omega)⟩;refine jW il cK I ⟨λW w'=>W=.bool (um XE)/\G=w',nH (aC (λ_=>⟨vb (by unfold um;first|exact(ez cK).symm|exact ga.2 cK),rfl⟩) λ_=>nH (aC (λ_=>⟨vb (by unfold um;first|exact(ez cK).symm|exact ga.2 cK),rfl⟩) λ_=>nH (aC (λ_=>⟨vb (by unfold um;first|exact(ez cK).symm|exact ga.2 cK),rfl⟩) λ_=>nH ⟨vb (by unfold um;first|exact(ez cK).symm|exact ga.2 cK),rfl⟩))),?_⟩
  rintro _ _ ⟨rfl,Z⟩ _;subst Z;refine aY (λU=>?_) (λU=>aV afJ u (C254 s (kh #[47,47]) (a:Int) _ hz ee cK) λ_ he u=>aY (λmf=>?_) λmf=>?_)
  .refine aN cK ?_;have T0:=qV I;exact⟨k,cK,a+1,rfl,cK,CO M I U,u⟩
  .refine⟨λE x G=>∃j:Nat,x=hZ (j:Int)/\E=s.size-j/\a<=j/\j<=s.size/\wx xI s a=wx xI s j/\St w aZ [] G,⟨_,a,rfl,rfl,o6 _,ha,rfl,u⟩,?_⟩;rintro E _ w4 ⟨j,rfl,rfl,haj,hj,iV,u⟩ _;refine⟨λW w'=>W=.bool (match (iQ s)[j]? with|some c=>xI c|none=>false)/\w4=w',fk il (aR (aC (λmg=>?_) λmg=>⟨vb (by first|(rw[show(iQ s)[j]?=some xB from vB];unfold xI;exact ga.2 cK)|(rw[m4 (by rw[eY];omega)])),rfl⟩)),?_⟩
   .obtain⟨xB,vB⟩:∃xx,(iQ s)[(j:Int).toNat]?=some xx:=⟨_,kX (by rw[eY];omega)⟩;exact jW il cK vB (WN ⟨vb (by first|(rw[show(iQ s)[j]?=some xB from vB];unfold xI;exact ga.2 cK)|(rw[m4 (by rw[eY];omega)])),rfl⟩)
   rintro _ _ ⟨rfl,Z⟩ _;subst Z;refine aY (λB=>?_) (λB=>?_)
   .refine aN cK ?_
    have O:∃c,(iQ s)[j]?=some c/\xI c=true:=by
     cases hc:(iQ s)[j]? with
     | none=>rw[hc]at B;cases B
     | some c=>rw[hc]at B;exact⟨c,rfl,B⟩
    obtain⟨cj,Dc,UD⟩:=O;have D3:=qV Dc;exact⟨_,cK,j+1,rfl,rfl,cK,cK,iV.trans (FE Dc UD),u⟩
   have axW:wx xI s j=j:=by
    by_cases V:j<s.size
    .obtain⟨cj,O⟩:∃c,(iQ s)[j]?=some c:=⟨_,kX (by rw[eY];exact V)⟩;rw[O]at B;exact FG O B
    .exact JL cK
   have J:=HO M I U mf;rw[iV,axW]at J;exact⟨k,cK,j,rfl,hj,J,u⟩
  have Y:=Nd M I U (by exact_mod_cast mf);subst Y;exact⟨rfl,u.aG⟩
 have Y:=UC M cK;subst Y;exact⟨rfl,u.aG⟩
def C208(s:ByteArray)(i:Nat)(c:UInt8)(w:World)(hz:s.size<=1000000)(hc:(iQ s)[i]?=some c):CR 208 [.string s,hZ (i:Int)] w (λv w'=>v=hZ (qM s i c)/\Ext w w'):=by
 have hi:=qV hc;have u:=St.start w;refine oM Tryz.func208 (pl:=auK) ?_;refine bD Db u iC rfl rfl (dL rfl) (λM J u=>?_);refine⟨λE x J=>∃k:Nat,x=hZ (k:Int)/\E=Db.length-k/\k<=Db.length/\(∀y∈Db.take k,Cm s i y=false)/\St w aZ [bH M Db] J,⟨_,0,rfl,rfl,l1 _,ei,u⟩,?_⟩;rintro E _ _ ⟨k,rfl,rfl,hk,G,u⟩ _;refine aK iC u.dX ?_;have N9:Db.length=5:=rfl;refine aR (aC (λxd=>?_) λxd=>?_)
 .obtain⟨Z,I⟩:=gx Db (i:=(k:Int).toNat) cK;exact dR u iC cK cK (λ_ Ml=>gM u gw Ml I (aV afJ u (C254 s Z (i:Int) _ hz (aei _ (kE I)) cK) λ_ _ u=>aY (λO=>⟨gO (ni .i64) (by unfold qM;rw[ew (ic I O)]),u.drop.aG⟩) λO=>aN cK ⟨_,cK,k+1,rfl,rfl,cK,dZ G I O,u⟩))
 have u:=u.drop;refine⟨λE x J=>∃j:Nat,x=hZ (j:Int)/\E=(kh #[40,41,123,125,59,44,61,60,33,43,45,42,47,37]).size-j/\j<=(kh #[40,41,123,125,59,44,61,60,33,43,45,42,47,37]).size/\(∀y∈(iQ (kh #[40,41,123,125,59,44,61,60,33,43,45,42,47,37])).take j,decide ((y.toNat:Int)=c.toNat)=false)/\St w aZ [] J,⟨_,0,rfl,rfl,l1 _,ei,u⟩,?_⟩;rintro E _ _ ⟨j,rfl,rfl,hj,EL,u⟩ _;refine fk il ?_;have Kk:(kh #[40,41,123,125,59,44,61,60,33,43,45,42,47,37]).size=14:=rfl;refine aR (aC (λyP=>?_) λyP=>?_)
 .obtain⟨V,U⟩:∃xx,(iQ (kh #[40,41,123,125,59,44,61,60,33,43,45,42,47,37]))[(j:Int).toNat]?=some xx:=⟨_,kX (by rw[eY];omega)⟩;refine jW il cK U ?_;obtain⟨uZ,pb⟩:∃xx,(iQ s)[(i:Int).toNat]?=some xx:=⟨_,kX (by rw[eY];omega)⟩;refine jW il cK pb ?_;obtain rfl:=oi.inj (pb.symm.trans hc);refine nH (aC (λW=>?_) λW=>aN cK (have u:=u.drew;⟨_,cK,j+1,rfl,rfl,cK,dZ EL U (fN W),u⟩));have u:=u.drew;have B:Db.any (Cm s i)=false:=iD (by rw[kO cK]at G;exact G)
  exact⟨gO (ni .i64) (by unfold qM;rw[ej (by rw[B];simp),ew (ic U (ez W))]),u.aG⟩
 have B:Db.any (Cm s i)=false:=iD (by rw[kO cK]at G;exact G);have Y:=iD (g:=λx:UInt8=>decide ((x.toNat:Int)=c.toNat)) (by rw[kO (by rw[eY];omega)]at EL;exact EL);exact⟨gO (ni .i64) (by unfold qM;rw[ej (by rw[B];simp),ej (by rw[Y];simp)]),u.aG⟩
def C209(lv:Value)(l:List bT)(i:Int)(t:ByteArray)(w:World)(E:dC (λ_=>True) w lv l)(hn:l.length<=1000000):CR 209 [lv,hZ i,.string t] w (λv w'=>v=.bool (tM l i t)/\Ext w w'):=by
 have B:=St.start w;refine fg Tryz.func209 ?_;refine⟨λJ w'=>J=.bool (tM l i t)/\w=w',cR (aC (λgE=>aK fL (E.ext B.aG) (aR (aC (λxd=>?_) λxd=>⟨vb (by unfold tM;first|(rw[u];grind)|(rw[fN cK];rfl)|(rw[m4 cK];simp)),rfl⟩))) λgE=>⟨vb (by unfold tM;first|(rw[u];grind)|(rw[fN cK];rfl)|(rw[m4 cK];simp)),rfl⟩),?_⟩
 .obtain⟨G,u⟩:=gx l (i:=(i).toNat) cK;refine aQ fL E cK u (λ_ V=>bW G.text nB V rfl rfl λ_ lS=>aD gw (lS.ext B.aG) (jI (aC (λI=>?_) λI=>⟨vb (by unfold tM;first|(rw[u];grind)|(rw[fN cK];rfl)|(rw[m4 cK];simp)),rfl⟩)));refine aQ fL E cK u (λ_ uN=>?_);exact bW G.kind lM uN rfl rfl (λ_ M=>aD bM (M.ext B.aG) (bV (aC (λO=>aQ fL E cK u λ_ Y=>bW G.kind lM Y rfl rfl λ_ Z=>aD bM (Z.ext B.aG) (cR (aC (λrk=>aQ fL E cK u λ_ W=>bW G.kind lM W rfl rfl λ_ uY=>aD bM (uY.ext B.aG) (iE ⟨vb (by unfold tM;first|(rw[u];grind)|(rw[fN cK];rfl)|(rw[m4 cK];simp)),rfl⟩)) λrk=>⟨vb (by unfold tM;first|(rw[u];grind)|(rw[fN cK];rfl)|(rw[m4 cK];simp)),rfl⟩))) λO=>⟨vb (by unfold tM;first|(rw[u];grind)|(rw[fN cK];rfl)|(rw[m4 cK];simp)),rfl⟩)))
 rintro _ _ ⟨rfl,U⟩ _;subst U;exact⟨rfl,B.aG⟩
def C214(lv:Value)(l:List bT)(i:Int)(w:World)(B:dC (λ_=>True) w lv l)(hn:l.length<=1000000)(sB:∀x∈l,0<=x.at_/\x.at_<=1000000/\x.text.size<=1000000):CR 214 [lv,hZ i] w (λv w'=>v=hZ (nt l i)/\Ext w w'):=by
 have u:=St.start w;refine oM Tryz.func214 (pl:=auN) ?_;refine⟨λU w'=>U=.bool (decide (0<=i/\i<l.length))/\w=w',cR (aC (λ_=>aK fL (B.ext u.aG) (aR ⟨yF cK,rfl⟩)) λ_=>⟨jvF cK,rfl⟩),?_⟩;rintro _ _ ⟨rfl,W⟩ _;subst W;refine aC (λnJ=>?_) (λnJ=>aK fL (B.ext u.aG) (aH (aC (λoB=>?_) λoB=>?_)))
 .obtain⟨Ew,M⟩:=gx l (i:=(i).toNat) cK;exact aQ fL B cK M (λ_ Y=>bW Ew.at_ lO Y rfl rfl λ_ V=>aD bM (V.ext u.aG) ⟨gO (ni .i64) (by unfold nt;rw[ew cK,M]),u.aG⟩)
 .have J:l=[]:=uX.1 cK;subst J;exact⟨gO (ni .i64) (by unfold nt;split<;>simp_all),u.aG⟩
 refine aK fL (B.ext u.aG) (fh cK ?_);obtain⟨G,E⟩:=gx l (i:=((l.length:Int)-1).toNat) cK;refine aQ fL B cK E (λ_ Ff=>bW G.at_ lO Ff rfl rfl λ_ xf=>have u:=u.drew;aD bM (xf.ext u.aG) (aK fL (B.ext u.aG) (fh cK (aQ fL B cK E λ_ Z=>bW G.text nB Z rfl rfl λ_ rh=>aD gw (rh.ext u.aG) (fk il ?_)))));have O:=sB _ (kE E);refine aN cK ?_;have I:l.getLast? = some G:=by rw[List.getLast?_eq_getElem?,<- E];congr 1;omega
 have eG:(if 0<=i then l[i.toNat]? else none)=none:=by split;exact m4 cK;rfl
 exact⟨gO (ni .i64) (by unfold nt;rw[eG,I]),u.aG⟩
def numOf(s:ByteArray)(a k:Nat):Int:=(((iQ s).drop a).take (k-a)).foldl (λn c=>if n<=4294967296 then 10*n+((c.toNat:Int)-48)else n) 0
theorem SQ(s:ByteArray)(a:Nat):numOf s a a=0:=by unfold numOf;grind
theorem zS{s:ByteArray}{a k:Nat}{c:UInt8}(u:a<=k)(h:(iQ s)[k]?=some c):numOf s a (k+1)=if numOf s a k<=4294967296 then 10*numOf s a k+((c.toNat:Int)-48)else numOf s a k:=by
 unfold numOf
 rw[show k+1-a=(k-a)+1 from cK,ta,Im,show a+(k-a)=k from cK,h,Ix,D8]
 rfl
theorem aej{s:ByteArray}{a:Nat}:∀{k:Nat},a<=k->k<=s.size->(∀j c,a<=j->j<k->(iQ s)[j]?=some c->48<=(c.toNat:Int)/\(c.toNat:Int)<=57)->0<=numOf s a k/\numOf s a k<=42949672969:=by
 intro k
 induction k with
 | zero=>
  grind[iQ,numOf]
 | succ k B=>
  intro E G u
  by_cases e:a=k+1
  .subst e;rw[SQ];omega
  .have:=B cK cK λj c h1 h2=>u j c h1 cK
   obtain⟨c,hc⟩:∃c,(iQ s)[k]?=some c:=⟨_,kX (by rw[eY];omega)⟩
   have h2:=u k c cK cK hc
   rw[zS cK hc]
   omega
def mO(s:ByteArray):Nat->Nat->List bT->Option (List bT×Int×Int)
 | 0,_,_=>none
 | n+1,a,out=>match (iQ s)[a]? with
  | none=>some (out,0,0)
  | some c=>
   if gA c.toNat=true then(if 16<wx sQ s a-a then some ([],2,(a:Int))else(lC s (s.size+1) (wx sQ s a)).bind λu=>mO s n u (out++[⟨1,s.extract a (wx sQ s a),0,a⟩]))
   else if kq c.toNat=true then(if 4294967296<numOf s a (wx wy s a)then some ([],4,(a:Int))else(lC s (s.size+1) (wx wy s a)).bind λu=>mO s n u (out++[⟨2,s.extract a (wx wy s a),numOf s a (wx wy s a),a⟩]))
   else if qM s a c=0 then some ([],3,(a:Int))else(lC s (s.size+1) (a+(qM s a c).toNat)).bind λu=>mO s n u (out++[⟨3,s.extract a (a+(qM s a c).toNat),0,a⟩])
def v8(s:ByteArray):Option (List bT×Int×Int):=if 4000<s.size then some ([],2,4000)else(lC s (s.size+1) 0).bind λa=>mO s (s.size+2) a []
theorem Qj{s:ByteArray}{n a:Nat}{out:List bT}{r:List bT×Int×Int}(h:mO s n a out=some r):∃k,n=k+1:=by
 cases n with
 | zero=>cases h
 | succ k=>grind
def yn(s:ByteArray)(k a:Nat)(out:List bT)(R:List bT×Int×Int)(B:Int)(e:Nat)(n:Int):Prop:=a<e/\e<=s.size/\∃u,lC s (s.size+1) e=some u/\mO s k u (out++[⟨B,s.extract a e,n,a⟩])=some R
section
variable {s:ByteArray}{k a:Nat}{c:UInt8}{out:List bT}{R:List bT×Int×Int}
theorem UE(h:mO s (k+1) a out=some R)(u:s.size<=a):R=(out,0,0):=by
 unfold mO at h;rw[m4 (by rw[eY];exact u)]at h;grind
theorem Gz(h:mO s (k+1) a out=some R)(hc:(iQ s)[a]?=some c)(u:gA c.toNat=true)(hb:16<wx sQ s a-a):R=([],2,(a:Int)):=by
 unfold mO at h;grind
theorem Cn{e:Nat}{u n:Int}(h:((lC s (s.size+1) e).bind λB=>mO s k B (out++[⟨u,s.extract a e,n,a⟩]))=some R)(h1:a<e)(h2:e<=s.size):yn s k a out R u e n:=by
 cases hp:lC s (s.size+1) e with
 | none=>grind
 | some B=>grind[yn]
theorem UF(h:mO s (k+1) a out=some R)(hc:(iQ s)[a]?=some c)(B:gA c.toNat=true)(hb:¬ 16<wx sQ s a-a)(u:a<wx sQ s a):yn s k a out R 1 (wx sQ s a) 0:=by
 unfold mO at h;rw[hc]at h;dsimp only at h;rw[ew B,ej hb]at h
 have:=qV hc;have h2:=Qh (s:=s) (a:=a) sQ
 exact Cn h u cK
theorem JM(h:mO s (k+1) a out=some R)(hc:(iQ s)[a]?=some c)(u:gA c.toNat=false)(B:kq c.toNat=true)(hb:4294967296<numOf s a (wx wy s a)):R=([],4,(a:Int)):=by
 unfold mO at h;grind
theorem Zy(h:mO s (k+1) a out=some R)(hc:(iQ s)[a]?=some c)(E:gA c.toNat=false)(B:kq c.toNat=true)(hb:¬ 4294967296<numOf s a (wx wy s a))(u:a<wx wy s a):yn s k a out R 2 (wx wy s a) (numOf s a (wx wy s a)):=by
 unfold mO at h;rw[hc]at h;dsimp only at h;rw[ej dD,ew B,ej hb]at h
 have:=qV hc;have h2:=Qh (s:=s) (a:=a) wy
 exact Cn h u cK
theorem UG(h:mO s (k+1) a out=some R)(hc:(iQ s)[a]?=some c)(u:gA c.toNat=false)(B:kq c.toNat=false)(hb:qM s a c=0):R=([],3,(a:Int)):=by
 unfold mO at h;grind
theorem Zz(s:ByteArray)(a:Nat)(c:UInt8):qM s a c=0\/qM s a c=1\/qM s a c=2:=by
 grind[qM]
theorem SR{s:ByteArray}{a:Nat}{c:UInt8}(h:(iQ s)[a]?=some c):(a:Int)+qM s a c<=s.size:=by
 have u:=qV h
 unfold qM
 split
 .rename_i h2
  rw[xo]at h2
  obtain⟨t,ht,hb⟩:=h2
  have:t.size=2:=by
   have B:∀t∈Db,t.size=2:=ee
   grind
  unfold Cm at hb
  grind
 omega
theorem UH(h:mO s (k+1) a out=some R)(hc:(iQ s)[a]?=some c)(u:gA c.toNat=false)(B:kq c.toNat=false)(hb:¬ qM s a c=0):yn s k a out R 3 (a+(qM s a c).toNat) 0:=by
 unfold mO at h;rw[hc]at h;dsimp only at h;rw[ej dD,ej dD,ej hb]at h
 have h1:=Zz s a c;have h2:=SR hc
 exact Cn h cK cK
end
theorem C130(s:ByteArray)(R:List bT×Int×Int)(w:World)(TV:s.size<=1000000)(hr:v8 s=some R):CR 130 [.string s] w (λv w'=>∃o,v=.tuple #[o,hZ R.2.1,hZ R.2.2]/\lh (bH o R.1) w w'):=by
 have u:=St.start w;refine abU _ _ _ ?_;unfold S130;refine fk il (cO (aC (λjD=>?_) λjD=>?_))
 .have Y:([],2,4000)=R:=by unfold v8 at hr;rw[ew cK]at hr;exact oi.inj hr
  subst Y;exact⟨_,rfl,u.eL.fresh⟩
 have h4:s.size<=4000:=cK
 obtain⟨a0,ha0,Of⟩:∃a0,lC s (s.size+1) 0=some a0/\mO s (s.size+2) a0 []=some R:=by
  unfold v8 at hr;rw[ej cK]at hr;cases hq:lC s (s.size+1) 0 with
  | none=>rw[hq]at hr;cases hr
  | some a0=>rw[hq]at hr;exact⟨a0,rfl,hr⟩
 have axX:=Bf ha0 cK;refine bD ([]:List bT) u fL rfl rfl (dL rfl) (λs_x12 _ u=>aV afD u (C205 s 0 (s.size+1) a0 _ cK cK ha0) λ_ he u=>?_);refine⟨λmm o x w'=>∃(a:Nat) (out:List bT),x=hZ (a:Int)/\a<=s.size/\out.length<=a/\mO s mm a out=some R/\St w aZ [bH o out] w',⟨_,a0,[],rfl,axX.2,l1 _,Of,u⟩,?_⟩;rintro mm zj _ _ ⟨a,out,rfl,ha,Kk,hp,u⟩ _;obtain⟨k,rfl⟩:=Qj hp;refine fk il (aR (aC (λlR=>pop (WB _) (aM u aco λUI _ u=>aI (x:=(⟨0,(kh #[]),0,(a:Int)⟩:bT)) u afR rfl rfl λ_ u=>⟨λto w'=>∃(kd:Int) (e:Nat) (n:Int),to=hZ (e:Int)/\yn s k a out R kd e n/\St w aZ [bY UI (j0 (⟨kd,kh #[],n,(a:Int)⟩:bT)),bH zj out] w',?_,?_⟩)) λlR=>?_))
 .obtain⟨iK,jS⟩:∃xx,(iQ s)[(a:Int).toNat]?=some xx:=⟨_,kX (by rw[eY];omega)⟩;refine jW il cK jS ?_;have B:(iQ s)[a]?=some iK:=jS;refine aV Rp u (C206 _ _) (λ_ he u=>aY (λjE=>?_) λjE=>?_)
  .have E:=jE;refine aA lM (aT u bM (dL rfl) (rfl) λ_ u=>?_);have u:=u.enc (cs':=j0 ({ (⟨0,(kh #[]),0,(a:Int)⟩:bT)with kind:=1}:bT)) rfl;have u:=u.p1.p1;refine⟨λmm x w'=>∃j:Nat,x=hZ (j:Int)/\mm=s.size-j/\a<=j/\j<=s.size/\wx sQ s a=wx sQ s j/\St w aZ [bY UI (j0 (⟨1,kh #[],0,(a:Int)⟩:bT)),bH zj out] w',⟨_,a,rfl,rfl,o6 _,ha,rfl,u⟩,?_⟩;rintro mm _ _ ⟨j,rfl,rfl,W,hj,I,u⟩ _;refine⟨λjv w'=>jv=.bool (match (iQ s)[j]? with|some c=>sQ c|none=>false)/\St w aZ [bY UI (j0 (⟨1,kh #[],0,(a:Int)⟩:bT)),bH zj out] w',fk il (aR (aC (λrq=>?_) λrq=>⟨vb (by first|(rw[show(iQ s)[j]?=some J from pb];show _=(gA J.toNat||kq J.toNat);rw[mg];rfl)|(rw[m4 (by rw[eY];omega)])),u⟩)),?_⟩
   .obtain⟨J,pb⟩:∃xx,(iQ s)[(j:Int).toNat]?=some xx:=⟨_,kX (by rw[eY];omega)⟩;refine jW il cK pb ?_;have hcj0:(iQ s)[j]?=some J:=pb;exact aV Rp u (C206 _ _) (λ_ he u=>aY (λmg=>⟨vb (by first|(rw[show(iQ s)[j]?=some J from pb];show _=(gA J.toNat||kq J.toNat);rw[mg];rfl)|(rw[m4 (by rw[eY];omega)])),u⟩) λmg=>jW il cK pb (aV Rq u (C207 _ _) λ_ he u=>⟨vb (by first|(rw[show(iQ s)[j]?=some J from pb];show _=(gA J.toNat||kq J.toNat);rw[mg];rfl)|(rw[m4 (by rw[eY];omega)])),u⟩))
   rintro _ _ ⟨rfl,u⟩ _;refine aY (λZ=>?_) (λZ=>?_)
   .refine aN cK ?_
    have U:∃c,(iQ s)[j]?=some c/\sQ c=true:=by
     cases hc:(iQ s)[j]? with
     | none=>rw[hc]at Z;cases Z
     | some c=>rw[hc]at Z;exact⟨c,rfl,Z⟩
    obtain⟨cj,O,UD⟩:=U;have D3:=qV O;exact⟨_,cK,j+1,rfl,rfl,cK,cK,I.trans (FE O UD),u⟩
   have V:wx sQ s j=j:=by
    by_cases hjs:j<s.size
    .obtain⟨cj,U⟩:∃c,(iQ s)[j]?=some c:=⟨_,kX (by rw[eY];exact hjs)⟩;rw[U]at Z;exact FG U Z
    .exact JL cK
   refine fh cK (cO (aC (λR7=>?_) λR7=>?_))
   .have u:=u.drop.drop;have Y:=Gz hp B E (by rw[I,V];omega);subst Y;exact⟨_,rfl,u.eL.fresh⟩
   have u:=u.p1.p1
   have hgt:a<j:=by
    rcases Po a j with h|h
    .exact h
    .obtain rfl:j=a:=cK
     rw[B]at Z;have h9:sQ iK=false:=Z;unfold sQ at h9;rw[E]at h9;cases h9
   have M:=UF hp B E (by rw[I,V];omega) (by rw[I,V];exact hgt);rw[I,V]at M;exact⟨1,j,0,rfl,M,u⟩
  have E:=jE;refine jW il cK jS (aV Rq u (C207 _ _) λ_ he u=>aY (λCF=>?_) λCF=>?_)
  .have G:=CF;refine aA lM (aT u bM (dL rfl) (rfl) λ_ u=>?_);have u:=u.enc (cs':=j0 ({ (⟨0,(kh #[]),0,(a:Int)⟩:bT)with kind:=2}:bT)) rfl;have u:=u.p1.p1;refine⟨λmm x w'=>∃j:Nat,x=hZ (j:Int)/\mm=s.size-j/\a<=j/\j<=s.size/\wx wy s a=wx wy s j/\(∀(i:Nat) (c:UInt8),a<=i->i<j->(iQ s)[i]?=some c->48<=(c.toNat:Int)/\(c.toNat:Int)<=57)/\St w aZ [bY UI (j0 (⟨2,kh #[],(numOf s a j),(a:Int)⟩:bT)),bH zj out] w',⟨_,a,rfl,rfl,o6 _,ha,rfl,λ_ _ h1 _=>absurd h1 cK,by rw[SQ];exact u⟩,?_⟩;rintro mm _ _ ⟨j,rfl,rfl,W,hj,I,hdg,u⟩ _
   refine⟨λjv w'=>jv=.bool (match (iQ s)[j]? with|some c=>wy c|none=>false)/\St w aZ [bY UI (j0 (⟨2,kh #[],(numOf s a j),(a:Int)⟩:bT)),bH zj out] w',fk il (aR (aC (λHi=>?_) λHi=>⟨vb (by first|(rw[show(iQ s)[j]?=some ag0 from Qk];rfl)|(rw[m4 (by rw[eY];omega)])),u⟩)),?_⟩
   .obtain⟨ag0,Qk⟩:∃xx,(iQ s)[(j:Int).toNat]?=some xx:=⟨_,kX (by rw[eY];omega)⟩;exact jW il cK Qk (aV Rq u (C207 _ _) λ_ he u=>⟨vb (by first|(rw[show(iQ s)[j]?=some ag0 from Qk];rfl)|(rw[m4 (by rw[eY];omega)])),u⟩)
   rintro _ _ ⟨rfl,u⟩ _;refine aY (λuU=>?_) (λuU=>?_)
   .have U:∃c,(iQ s)[j]?=some c/\wy c=true:=by
     cases hc:(iQ s)[j]? with
     | none=>rw[hc]at uU;cases uU
     | some c=>rw[hc]at uU;exact⟨c,rfl,uU⟩
    obtain⟨cj,O,UD⟩:=U;have D3:=qV O;have hcd:=UD;unfold wy kq at hcd;rw[decide_eq_true_eq]at hcd;have Zj:=aej W cK hdg;refine⟨λw'=>St w aZ [bY UI (j0 (⟨2,kh #[],(numOf s a (j+1)),(a:Int)⟩:bT)),bH zj out] w',aA se (aB (v:=hZ (numOf s a j)) bM u.hb rfl (iE (aC (λwW=>?_) λwW=>?_))),?_⟩
    .refine aA se (have u:=u.drew;aB (v:=hZ (numOf s a j)) bM u.hb rfl (IH cK ?_));obtain⟨arc,ZB⟩:∃xx,(iQ s)[(j:Int).toNat]?=some xx:=⟨_,kX (by rw[eY];omega)⟩;refine jW il cK ZB ?_;obtain rfl:=oi.inj (ZB.symm.trans (show(iQ s)[(j:Int).toNat]?=some cj from O));refine Za cK (Ut avf KX cK (aN cK (aA se (aT u bM (dL rfl) (rfl) λ_ u=>?_))));have u:=u.enc (cs':=j0 ({ (⟨2,kh #[],(numOf s a j),(a:Int)⟩:bT)with n:=((10*(numOf s a j))+((arc.toNat:Int)-48))}:bT)) rfl
     have u:=u.p1.p1;rw[zS W O,ew wW];exact u
    .have u:=u.p1.p1;rw[zS W O,ej wW];exact u
    intro _ u _;refine aN cK ?_
    exact⟨_,cK,j+1,rfl,rfl,cK,cK,I.trans (FE O UD),λi c h1 h2 h3=>by
     by_cases e:i=j
     .subst e;obtain rfl:=oi.inj (h3.symm.trans O);omega
     .exact hdg i c h1 cK h3,u⟩
   have V:wx wy s j=j:=by
    by_cases hjs:j<s.size
    .obtain⟨cj,U⟩:∃c,(iQ s)[j]?=some c:=⟨_,kX (by rw[eY];exact hjs)⟩;rw[U]at uU;exact FG U uU
    .exact JL cK
   refine aA se (aB (v:=hZ (numOf s a j)) bM u.hb rfl (cO (aC (λagd=>?_) λagd=>?_)))
   .have u:=u.drop.drop;have Y:=JM hp B E G (by rw[I,V];omega);subst Y;exact⟨_,rfl,u.eL.fresh⟩
   have u:=u.p1.p1
   have hgt:a<j:=by
    rcases Po a j with h|h
    .exact h
    .obtain rfl:j=a:=cK
     rw[B]at uU;have h9:wy iK=false:=uU;unfold wy at h9;rw[G]at h9;cases h9
   have M:=Zy hp B E G (by rw[I,V];omega) (by rw[I,V];exact hgt);rw[I,V]at M;exact⟨2,j,_,rfl,M,u⟩
  have G:=CF;have hsb:=Zz s a iK;have hsi:=SR B;refine aA lM (aT u bM (dL rfl) (rfl) λ_ u=>have u:=u.enc (cs':=j0 ({ (⟨0,(kh #[]),0,(a:Int)⟩:bT)with kind:=3}:bT)) rfl;aV amY u (C208 s a iK _ TV B) λ_ he u=>aN cK (aH (aC (λare=>?_) λare=>?_)))
  .have u:=u.drop.drop;have Y:=UG hp B E G cK;subst Y;exact⟨_,rfl,u.eL.fresh⟩
  have u:=u.p1.p1;have M:=UH hp B E G cK;exact⟨3,a+(qM s a iK).toNat,0,by congr 1;omega,M,u⟩
 .rintro _ _ ⟨kd,e,n,rfl,M,u⟩ _;have axY:=M;obtain⟨h1e0,h2e0,_⟩:=axY;refine Lt il cK cK cK (aA nB (aT u gw (dL rfl) (rfl) λ_ u=>have u:=u.enc (cs':=j0 ({ (⟨kd,kh #[],n,(a:Int)⟩:bT)with text:=(s.extract (a:Int).toNat (e:Int).toNat)}:bT)) rfl;aD afR u.At (bD ([(⟨kd,s.extract (a:Int).toNat (e:Int).toNat,n,(a:Int)⟩:bT)]) u fL rfl rfl (dL rfl) λajM _ u=>?_)));have aek:=u.dX;refine bJ u.p2 fL aek (by simp;omega) ee (λajN _ u=>?_);have u:=u.p1.drop;obtain⟨h1e,h2e,a2,ha2,hp2⟩:=M
  have axZ:=Bf ha2 h2e;exact aV afD u (C205 s e (s.size+1) a2 _ cK cK ha2) (λ_ _ u=>have u:=u.p1.drop;⟨k,cK,a2,_,rfl,axZ.2,by simp;omega,hp2,u⟩)
 have Y:=UE hp cK;subst Y;exact⟨_,rfl,u.fresh⟩
structure fM where
 l:(List cA)
 to:Int
 e:Int
 at_:Int
deriving DecidableEq
structure ea where
 l:SV
 to:Int
 e:Int
 at_:Int
instance:Flat ea where
 agg:=true
 sz:=4
 enc e:=[.slice e.l.a e.l.n e.l.cap,hZ e.to,hZ e.e,hZ e.at_]
 val e:=.agg [.slice e.l.a e.l.n e.l.cap,hZ e.to,hZ e.e,hZ e.at_].toArray
 pos:=ee
 len _:=rfl
 one a v h:=by grind[wG]
 oH _ _:=rfl
 oI h:=by cases h
instance:Deep fM ea where
 dr w s x:=∃(u:SV),s=(⟨u,x.to,x.e,x.at_⟩:ea)/\DL w (ia u) x.l
 ext h e:=by
  obtain⟨B,rfl,E⟩:=h
  exact⟨B,rfl,E.ext e⟩
def lH{w:World}{u:ea}{x:fM}(h:mh w u x):DL w (ia u.l) x.l:=by obtain⟨_,rfl,h⟩:=h;exact h
def qW(n:Int):List Int:=if n=0 then [15]else if n=1 then [14]else if n=2 then [10,11,12,13]else if n=3 then [5,6]else [7,8,9]
def DI:List ByteArray:=[⟨#[]⟩,⟨#[]⟩,⟨#[]⟩,⟨#[45]⟩,⟨#[33]⟩,⟨#[43]⟩,⟨#[45]⟩,⟨#[42]⟩,⟨#[47]⟩,⟨#[37]⟩,⟨#[61,61]⟩,⟨#[33,61]⟩,⟨#[60]⟩,⟨#[60,61]⟩,⟨#[38,38]⟩,⟨#[124,124]⟩]
def Nf(k:Int):ByteArray:=(DI[k.toNat]?).getD ⟨#[]⟩
def gq(l:List bT)(i e:Int):fM:=⟨[],0,if (l.length:Int)<=i then 6 else e,nt l i⟩
abbrev arf(r:fM)(w:World):=tV λv w'=>∃u:ea,v=ia u/\lh (eD λw=>mh w u r) w w'
def ajO(l:List bT)(rec:Int->Int->Int->Option fM):Prop:=∀(lv:Value) (i d n:Int) (r:fM) (w:World),dC (λ_=>True) w lv l->rec i d n=some r->0<=i/\i<=l.length->0<=d/\d<=12->0<=n/\n<=5->
 Calls hH 258 [lv,hZ i,hZ d,hZ n].toArray w (arf r w)/\(n=5->Calls hH 294 [lv,hZ i,hZ d].toArray w (arf r w))
structure jm(l:List bT):Prop where
 n:l.length<=5000
 at_:∀x∈l,0<=x.at_/\x.at_<=1000000/\x.text.size<=1000000
def UJ(l:List bT)(i:Int):Bool:=tM l i ⟨#[33]⟩||tM l i ⟨#[45]⟩
def po(rec:Int->Int->Int->Option fM)(l:List bT)(i d:Int):Option fM:=
 match (if (l.length:Int)<=i then none else l[i.toNat]?)with
 | none=>some (gq l i 6)
 | some t=>if ((UJ l i||tM l i ⟨#[40]⟩)&&decide (d=12))=true then some (gq l i 7)
  else if UJ l i=true then(rec (i+1) (d+1) 5).bind λx=>if x.l.length<=10000 then some (if x.e≠0 then x else {x with l:=[⟨if t.text=⟨#[45]⟩then 3 else 4,0,⟨#[]⟩,t.at_⟩]++x.l})else none
  else if tM l i ⟨#[40]⟩=true then(rec (i+1) (d+1) 0).bind λx=>some (if x.e≠0 then x else if tM l x.to ⟨#[41]⟩=true then {x with to:=x.to+1}else gq l x.to 5)
  else if t.kind=2 then some ⟨[⟨1,t.n,⟨#[]⟩,t.at_⟩],i+1,0,0⟩
  else if (decide (t.kind=1)&&gK t.text)=true then some ⟨[⟨2,0,t.text,t.at_⟩],i+1,0,0⟩
  else some (gq l i 5)
def FH(l:List bT)(to n:Int)(k:Nat):Int:=((qW n).take k).foldl (λop f=>if tM l to (Nf f)=true then f else op) 0
def JN(l:List bT)(to n:Int):Int:=FH l to n (qW n).length
theorem HQ{l:List bT}{to n:Int}{k:Nat}{f:Int}(h:(qW n)[k]?=some f):FH l to n (k+1)=if tM l to (Nf f)=true then f else FH l to n k:=by
 unfold FH;rw[ta,h,Ix,D8];rfl
def v9(rec:Int->Int->Int->Option fM)(l:List bT)(d n:Int):Nat->fM->Option fM
 | 0,_=>none
 | k+1,x=>if x.e≠0 then some x else if JN l x.to n=0 then some x else match (if 0<=x.to then l[x.to.toNat]? else none)with
  | none=>none
  | some t=>match rec (x.to+1) d (n+1)with
   | none=>none
   | some y=>if y.e≠0 then some y else if x.l.length+y.l.length<=10000 then
     (if n=2 then some ⟨[⟨JN l x.to n,0,⟨#[]⟩,t.at_⟩]++x.l++y.l,y.to,0,0⟩else v9 rec l d n k ⟨[⟨JN l x.to n,0,⟨#[]⟩,t.at_⟩]++x.l++y.l,y.to,0,0⟩)else none
def HS(l:List bT):Nat->Int->Int->Int->Option fM
 | 0,_,_,_=>none
 | k+1,i,d,n=>if n=5 then po (HS l k) l i d else(HS l k i d (n+1)).bind (v9 (HS l k) l d n k)
def ZC{n:Int}{k:Nat}{f:Int}(h:(qW n)[k]?=some f):5<=f/\f<=15:=by
 have u:=kE h
 unfold qW at u
 grind
section
variable {rec:Int->Int->Int->Option fM}{l:List bT}{i d n:Int}{r x y:fM}{t:bT}{k:Nat}
theorem Ql(h:po rec l i d=some r)(u:(l.length:Int)<=i):r=gq l i 6:=by
 unfold po at h;grind
theorem Ng(h:po rec l i d=some r)(B:¬ (l.length:Int)<=i)(ht:l[i.toNat]?=some t)(u:((UJ l i||tM l i ⟨#[40]⟩)&&decide (d=12))=true):r=gq l i 7:=by
 unfold po at h;grind
theorem UK(h:po rec l i d=some r)(u:¬ (l.length:Int)<=i)(ht:l[i.toNat]?=some t)(E:((UJ l i||tM l i ⟨#[40]⟩)&&decide (d=12))=false)(B:UJ l i=true) :
  ∃x,rec (i+1) (d+1) 5=some x/\x.l.length<=10000/\r=if x.e≠0 then x else {x with l:=[⟨if t.text=⟨#[45]⟩then 3 else 4,0,⟨#[]⟩,t.at_⟩]++x.l}:=by
 unfold po at h;rw[ej u,ht]at h;dsimp only at h;rw[ej dD,ew B]at h
 cases hr:rec (i+1) (d+1) 5 with
 | none=>grind
 | some x=>
  grind
theorem Nh(h:po rec l i d=some r)(u:¬ (l.length:Int)<=i)(ht:l[i.toNat]?=some t)(E:((UJ l i||tM l i ⟨#[40]⟩)&&decide (d=12))=false)(G:UJ l i=false)(B:tM l i ⟨#[40]⟩=true) :
  ∃x,rec (i+1) (d+1) 0=some x/\r=if x.e≠0 then x else if tM l x.to ⟨#[41]⟩=true then {x with to:=x.to+1}else gq l x.to 5:=by
 unfold po at h;rw[ej u,ht]at h;dsimp only at h;rw[ej dD,ej dD,ew B]at h
 cases hr:rec (i+1) (d+1) 0 with
 | none=>grind
 | some x=>grind
theorem Ni(h:po rec l i d=some r)(u:¬ (l.length:Int)<=i)(ht:l[i.toNat]?=some t)(B:((UJ l i||tM l i ⟨#[40]⟩)&&decide (d=12))=false)(E:UJ l i=false)(G:tM l i ⟨#[40]⟩=false) :
  r=if t.kind=2 then⟨[⟨1,t.n,⟨#[]⟩,t.at_⟩],i+1,0,0⟩else if (decide (t.kind=1)&&gK t.text)=true then⟨[⟨2,0,t.text,t.at_⟩],i+1,0,0⟩else gq l i 5:=by
 unfold po at h;grind
theorem Qm(h:v9 rec l d n k x=some r):∃j,k=j+1:=by
 cases k with
 | zero=>cases h
 | succ j=>grind
theorem ael(h:v9 rec l d n (k+1) x=some r)(u:x.e≠0):r=x:=by
 unfold v9 at h;grind
theorem ZD(h:v9 rec l d n (k+1) x=some r)(u:¬ x.e≠0)(B:JN l x.to n=0):r=x:=by
 unfold v9 at h;grind
theorem ZE(h:v9 rec l d n (k+1) x=some r)(u:¬ x.e≠0)(B:¬ JN l x.to n=0):∃t y,0<=x.to/\l[x.to.toNat]?=some t/\rec (x.to+1) d (n+1)=some y/\(y.e≠0->r=y)/\
  (¬ y.e≠0->x.l.length+y.l.length<=10000/\(n=2->r=⟨[⟨JN l x.to n,0,⟨#[]⟩,t.at_⟩]++x.l++y.l,y.to,0,0⟩)/\(¬ n=2->v9 rec l d n k ⟨[⟨JN l x.to n,0,⟨#[]⟩,t.at_⟩]++x.l++y.l,y.to,0,0⟩=some r)):=by
 unfold v9 at h;grind
theorem ag1(h:HS l (k+1) i d 5=some r):po (HS l k) l i d=some r:=by grind[po,HS]
theorem arh(h:HS l (k+1) i d n=some r)(u:¬ n=5):∃x,HS l k i d (n+1)=some x/\v9 (HS l k) l d n k x=some r:=by
 unfold HS at h;rw[ej u]at h
 cases hx:HS l k i d (n+1)with
 | none=>grind
 | some x=>grind
end
def wc(l:List bT)(i:Int):Option (List cA×Int×Int×Int):=if i<0 then some ([],0,1,0)else(HS l 10000 i 0 0).bind λx=>
 if x.e≠0 then some ([],0,x.e,x.at_)else match zz x.l,l[i.toNat]? with
  | some t,some k=>if x.l.length<=10000 then(if 12<t.depth then some ([],0,7,k.at_)else if 40<x.l.length then some ([],0,2,k.at_)else some (x.l,x.to,0,0))else none
  | _,_=>none
def Qn(n:Int):(qW n).length<=4:=by
 grind[qW]
def C295(n:Int)(w:World)(hn:0<=n/\n<=4):CR 295 [hZ n] w (λv w'=>lh (bH v (qW n)) w w'):=by
 have u:=St.start w;refine fg Tryz.func295 ?_;refine bD ([15]:List Int) u cS rfl rfl (dL rfl) (λU _ u=>bD ([14]:List Int) u cS rfl rfl (dL rfl) λZ _ u=>bD ([10,11,12,13]:List Int) u cS rfl rfl (dL rfl) λOW _ u=>bD ([5,6]:List Int) u cS rfl rfl (dL rfl) λW _ u=>bD ([7,8,9]:List Int) u cS rfl rfl (dL rfl) λV _ u=>?_);obtain⟨J,rfl⟩:=u.p4.fJ;obtain⟨M,rfl⟩:=u.p3.fJ;obtain⟨O,rfl⟩:=u.p2.fJ;obtain⟨I,rfl⟩:=u.p1.fJ;obtain⟨G,rfl⟩:=u.fJ;refine bD ([J,M,O,I,G]) u G0 rfl rfl (dL rfl) (λY _ u=>?_)
 have u:=(((((((((((u.acu (α:=Int)).p6).p1).El).p5).p1).El).p4).p1).El).p3).p1;have u:=u.El.p2.p1.El;obtain rfl|rfl|rfl|rfl|rfl:n=0\/n=1\/n=2\/n=3\/n=4:=cK
 .have B:=u.AD;exact dR u.p1 G0 ee ei (λ_ E=>gM u.p1 eg E (show _=some J from rfl) (have u:=u.split;u.fresh))
 .have B:=u.AD;exact dR u.p1 G0 ee ei (λ_ E=>gM u.p1 eg E (show _=some M from rfl) (have u:=u.split.drop.split;u.fresh))
 .have B:=u.AD;exact dR u.p1 G0 ee ei (λ_ E=>gM u.p1 eg E (show _=some O from rfl) (have u:=u.split.drop.split.drop.split;u.fresh))
 .have B:=u.AD;exact dR u.p1 G0 ee ei (λ_ E=>gM u.p1 eg E (show _=some I from rfl) (have u:=u.split.drop.split.drop.split.drop.split;u.fresh))
 have B:=u.AD;exact dR u.p1 G0 ee ei (λ_ E=>gM u.p1 eg E (show _=some G from rfl) (have u:=u.split.drop.split.drop.split.drop.split.drop.split;u.fresh))
def C296(k:Int)(w:World)(M:0<=k/\k<=15):CR 296 [hZ k] w (λv w'=>v=.string (Nf k)/\Ext w w'):=by
 have u:=St.start w;refine fg Tryz.func296 ?_;refine bD DI u iC rfl rfl (dL rfl) (λG _ u=>?_);have J:DI.length=16:=rfl;obtain⟨I,E⟩:=gx DI (i:=k.toNat) cK;refine dR u iC cK cK (λ_ B=>gM u gw B E ?_);refine⟨?_,u.drop.aG⟩;unfold Nf;rw[E];rfl
def C320(lv:Value)(l:List bT)(i e:Int)(w:World)(E:dC (λ_=>True) w lv l)(B:jm l):CR 320 [lv,hZ i,hZ e] w (λv w'=>∃sh:ea,v=ia sh/\lh (eD λw=>mh w sh (gq l i e)) w w'):=by
 have U:=B.n;have G:l.length<=1000000:=cK
 have O:=B.at_;have u:=St.start w;refine acd _ _ _ _ _ ?_;unfold S320;refine aM u tE (λV J u=>have u:=u.enc (cs':=j0 (⟨bX,0,0,0⟩:ea)) rfl;⟨λI w'=>I=hZ (if (l.length:Int)<=i then 6 else e)/\J=w',aK fL (E.ext u.aG) (cR (aC (λ_=>⟨by rw[ew cK],rfl⟩) λ_=>⟨by rw[ej cK],rfl⟩)),?_⟩);rintro _ _ ⟨rfl,M⟩ _;subst M;exact aV GQ u (C214 _ l i _ (E.ext u.aG) G O) (λ_ _ u=>pop (OO _ _) (aI (x:=(⟨bX,0,(if (l.length:Int)<=i then 6 else e),(nt l i)⟩:ea)) u fX rfl rfl λ_ u=>aD fX u.At (have u:=u.fu (Φ:=(λw=>mh w (⟨bX,0,(if (l.length:Int)<=i then 6 else e),(nt l i)⟩:ea) (⟨[],0,(if (l.length:Int)<=i then 6 else e),(nt l i)⟩:fM))) (λ_=>⟨_,rfl,DL.nil _⟩);have u:=u.p1.drop;⟨_,rfl,u.fresh⟩)))
def C294(l:List bT)(rec:Int->Int->Int->Option fM)(lv:Value)(i d:Int)(r:fM)(w:World)(G:dC (λ_=>True) w lv l)(Z:jm l)(HR:ajO l rec)(h0:0<=i/\i<=l.length)(hd:0<=d/\d<=12)(hr:po rec l i d=some r):CR 294 [lv,hZ i,hZ d] w (λv w'=>∃sh:ea,v=ia sh/\lh (eD λw=>mh w sh r) w w'):=by
 have DD:=Z.n;have hn:l.length<=1000000:=cK
 have sB:=Z.at_;have u:=St.start w;refine ab8 _ _ _ _ _ ?_;unfold S294;refine aM u tE (λPW _ u=>have u:=u.enc (cs':=j0 (⟨bX,0,0,0⟩:ea)) rfl;aK fL (G.ext u.aG) (cR (aC (λet=>?_) λet=>?_)))
 .refine dO Rx (C320 _ l i 6 _ (G.ext u.aG) Z) ?_;rintro _ _ ⟨ajR,rfl,O⟩;have u:=u.made O;obtain⟨Bg,Qo,_⟩:=u.eD;subst Qo;refine aI (x:=(⟨Bg,(gq l i 6).to,(gq l i 6).e,(gq l i 6).at_⟩:ea)) u.p1 fX rfl rfl (λ_ u=>aD fX u.At ?_);have I:r=(⟨(gq l i 6).l,(gq l i 6).to,(gq l i 6).e,(gq l i 6).at_⟩:fM):=Ql hr cK;rw[I];have u:=u.p1.dN (Ψ:=(λw=>mh w (⟨Bg,(gq l i 6).to,(gq l i 6).e,(gq l i 6).at_⟩:ea) (⟨(gq l i 6).l,(gq l i 6).to,(gq l i 6).e,(gq l i 6).at_⟩:fM))) (λ_ h=>⟨_,rfl,lH h⟩)
  have u:=u.p1.drop;exact⟨_,rfl,u.fresh⟩
 obtain⟨t,ht⟩:=gx l (i:=i.toNat) cK;have hta:=sB t (kE ht);refine⟨λW w'=>W=.bool (UJ l i)/\St w aZ [bY PW (j0 (⟨bX,0,0,0⟩:ea))] w',aV vQ u (C209 _ l i (kh #[33]) _ (G.ext u.aG) hn) (λ_ _ u=>aY (λiP=>⟨vb (by unfold UJ;rw[iP];rfl),u⟩) λiP=>aV vQ u (C209 _ l i (kh #[45]) _ (G.ext u.aG) hn) λ_ _ u=>⟨vb (by unfold UJ;rw[iP];rfl),u⟩),?_⟩;rintro _ _ ⟨rfl,u⟩ _;refine aV vQ u (C209 _ l i (kh #[40]) _ (G.ext u.aG) hn) (λ_ he u=>⟨λW w'=>W=.bool ((UJ l i||tM l i (kh #[40]))&&decide (d=12))/\St w aZ [bY PW (j0 (⟨bX,0,0,0⟩:ea))] w',aY (λE=>aH ⟨vb (by first|(rw[E];simp;done)|(rw[E,M];simp;done)|(rw[E];rfl)|(rw[E,M];rfl)),u⟩) (λE=>aY (λM=>aH ⟨vb (by first|(rw[E];simp;done)|(rw[E,M];simp;done)|(rw[E];rfl)|(rw[E,M];rfl)),u⟩) λM=>⟨vb (by first|(rw[E];simp;done)|(rw[E,M];simp;done)|(rw[E];rfl)|(rw[E,M];rfl)),u⟩),?_⟩)
 rintro _ _ ⟨rfl,u⟩ _;refine aY (λU=>?_) (λU=>aY (λE=>?_) λE=>aY (λM=>?_) λM=>?_)
 .refine dO Rx (C320 _ l i 7 _ (G.ext u.aG) Z) ?_;rintro _ _ ⟨ax1,rfl,O⟩;have u:=u.made O;obtain⟨SY,ajS,_⟩:=u.eD;subst ajS;refine aI (x:=(⟨SY,(gq l i 7).to,(gq l i 7).e,(gq l i 7).at_⟩:ea)) u.p1 fX rfl rfl (λ_ u=>aD fX u.At ?_);have I:r=(⟨(gq l i 7).l,(gq l i 7).to,(gq l i 7).e,(gq l i 7).at_⟩:fM):=Ng hr cK ht U;rw[I];have u:=u.p1.dN (Ψ:=(λw=>mh w (⟨SY,(gq l i 7).to,(gq l i 7).e,(gq l i 7).at_⟩:ea) (⟨(gq l i 7).l,(gq l i 7).to,(gq l i 7).e,(gq l i 7).at_⟩:fM))) (λ_ h=>⟨_,rfl,lH h⟩)
  have u:=u.p1.drop;exact⟨_,rfl,u.fresh⟩
 .refine aN cK (aN cK ?_);have ax2:¬ d=12:=λh=>by rw[E,ez h]at U;cases U
  obtain⟨B,V,hxl,J⟩:=UK hr cK ht U E;refine dO afN ((HR _ (i+1) (d+1) 5 B _ (G.ext u.aG) V cK cK cK).2 rfl) ?_;rintro _ _ ⟨ax3,rfl,O⟩;have u:=u.made O;obtain⟨DJ,ajT,_⟩:=u.eD;subst ajT;refine aM u tE (λBU _ u=>have u:=u.enc (cs':=j0 (⟨bX,0,0,0⟩:ea)) rfl;aI (x:=(⟨DJ,B.to,B.e,B.at_⟩:ea)) u fX rfl rfl λw13 u=>aA uG (aB (v:=hZ B.e) jN u.hb rfl (bV (aC (λxc=>?_) λxc=>⟨λW w'=>W=hZ (if t.text=kh #[45]then 3 else 4)/\w13=w',aQ fL (G.ext u.aG) cK ht (λ_ AM=>bW t.text nB AM rfl rfl λ_ Y8=>aD gw Y8 (jI (aC (λHi=>⟨by rw[ew Hi],rfl⟩) λHi=>⟨by rw[ej Hi],rfl⟩))),?_⟩))))
  .refine aD fX u.At (aI (x:=(⟨DJ,B.to,B.e,B.at_⟩:ea)) u.p2 fX rfl rfl λ_ u=>aD fX u.At ?_);have I:r=(⟨B.l,B.to,B.e,B.at_⟩:fM):=J.trans (ew xc);rw[I];have u:=u.p2.dN (Ψ:=(λw=>mh w (⟨DJ,B.to,B.e,B.at_⟩:ea) (⟨B.l,B.to,B.e,B.at_⟩:fM))) (λ_ h=>⟨_,rfl,lH h⟩);have u:=u.p1.drop.p1.drop;exact⟨_,rfl,u.fresh⟩
  rintro _ _ ⟨rfl,hw⟩ _;subst hw;obtain⟨op,ag2⟩:∃op,op=(if t.text=kh #[45]then(3:Int)else 4):=⟨_,rfl⟩;rw[<- ag2];refine aQ fL (G.ext u.aG) cK ht (λ_ Fg=>bW t.at_ lO Fg rfl rfl λ_ LI=>aD bM LI (pop (Eg _ _) (bD ([(⟨op,0,(kh #[]),t.at_⟩:cA)]) u gX rfl rfl (dL rfl) λs_x66 _ u=>aA sf (aB (v:=ia (DJ:SV)) jx u.p1.hb rfl ?_))));have ajU:=(DL.flat (lH u.p2.eD));refine bJ u gX ajU (by simp;omega) ee (λagO _ u=>aA sf ?_);obtain⟨Qp,rfl⟩:=u.fJ;refine aT u.p1 jx (dL rfl) (rfl) (λ_ u=>have u:=u.enc (cs':=j0 (⟨Qp,B.to,B.e,B.at_⟩:ea)) rfl;aD fX u.At (aI (x:=(⟨Qp,B.to,B.e,B.at_⟩:ea)) u.p3 fX rfl rfl λ_ u=>aD fX u.At ?_))
  have I:r=(⟨([(⟨op,0,(kh #[]),t.at_⟩:cA)]++B.l),B.to,B.e,B.at_⟩:fM):=by rw[J,ej xc,<- ag2]
  rw[I];have u:=u.p2.freeze.dN (Ψ:=(λw=>mh w (⟨Qp,B.to,B.e,B.at_⟩:ea) (⟨([(⟨op,0,(kh #[]),t.at_⟩:cA)]++B.l),B.to,B.e,B.at_⟩:fM))) (λ_ h=>⟨_,rfl,DL.j1 h⟩);have u:=u.p1.drop.p1.drop.p1.drop;exact⟨_,rfl,u.fresh⟩
 .refine aN cK (aN cK ?_);have ax2:¬ d=12:=λh=>by rw[E,M,ez h]at U;cases U
  obtain⟨B,V,J⟩:=Nh hr cK ht U E M;refine dO Ru ((HR _ (i+1) (d+1) 0 B _ (G.ext u.aG) V cK cK cK).1) ?_;rintro _ _ ⟨ax4,rfl,O⟩;have u:=u.made O;obtain⟨Y,ajV,_⟩:=u.eD;subst ajV;refine aM u tE (λWR _ u=>have u:=u.enc (cs':=j0 (⟨bX,0,0,0⟩:ea)) rfl;aI (x:=(⟨Y,B.to,B.e,B.at_⟩:ea)) u fX rfl rfl λ_ u=>aA uG (aB (v:=hZ B.e) jN u.hb rfl (bV (aC (λSZ=>?_) λSZ=>aA oX (aB (v:=hZ B.to) bM u.hb rfl (aV vQ u (C209 _ l B.to (kh #[41]) _ (G.ext u.aG) hn) λ_ he u=>bR (aY (λS0=>?_) λS0=>?_)))))))
  .refine aD fX u.At (aI (x:=(⟨Y,B.to,B.e,B.at_⟩:ea)) u.p2 fX rfl rfl λ_ u=>aD fX u.At ?_);have I:r=(⟨B.l,B.to,B.e,B.at_⟩:fM):=J.trans (ew SZ);rw[I];have u:=u.p2.dN (Ψ:=(λw=>mh w (⟨Y,B.to,B.e,B.at_⟩:ea) (⟨B.l,B.to,B.e,B.at_⟩:fM))) (λ_ h=>⟨_,rfl,lH h⟩);have u:=u.p1.drop.p1.drop;exact⟨_,rfl,u.fresh⟩
  .refine aA oX (aB (v:=hZ B.to) bM u.hb rfl (dO Rx (C320 _ l B.to 5 _ (G.ext u.aG) Z) ?_));rintro _ _ ⟨ax5,rfl,O⟩;have u:=u.made O;obtain⟨S1,ajW,_⟩:=u.eD;subst ajW;refine aI (x:=(⟨S1,(gq l B.to 5).to,(gq l B.to 5).e,(gq l B.to 5).at_⟩:ea)) u.p3 fX rfl rfl (λ_ u=>aD fX u.At ?_);have I:r=(⟨(gq l B.to 5).l,(gq l B.to 5).to,(gq l B.to 5).e,(gq l B.to 5).at_⟩:fM):=J.trans ((ej SZ).trans (ej (by simpa using S0)));rw[I];have u:=u.p1.dN (Ψ:=(λw=>mh w (⟨S1,(gq l B.to 5).to,(gq l B.to 5).e,(gq l B.to 5).at_⟩:ea) (⟨(gq l B.to 5).l,(gq l B.to 5).to,(gq l B.to 5).e,(gq l B.to 5).at_⟩:fM))) (λ_ h=>⟨_,rfl,lH h⟩)
   have u:=u.p1.drop.p1.drop.p1.drop;exact⟨_,rfl,u.fresh⟩
  refine aA oX (aB (v:=hZ B.to) bM u.hb rfl ?_);have tj:=sR (l:=l) (i:=B.to) (t:=kh #[41]) (by simpa using S0);refine aN cK (aA oX (aT u bM (dL rfl) (rfl) λ_ u=>have u:=u.enc (cs':=j0 (⟨Y,(B.to+1),B.e,B.at_⟩:ea)) rfl;aD fX u.At (aI (x:=(⟨Y,(B.to+1),B.e,B.at_⟩:ea)) u.p2 fX rfl rfl λ_ u=>aD fX u.At ?_)));have I:r=(⟨B.l,(B.to+1),B.e,B.at_⟩:fM):=J.trans ((ej SZ).trans (ew (by simpa using S0)));rw[I];have u:=u.p2.dN (Ψ:=(λw=>mh w (⟨Y,(B.to+1),B.e,B.at_⟩:ea) (⟨B.l,(B.to+1),B.e,B.at_⟩:fM))) (λ_ h=>⟨_,rfl,lH h⟩)
  have u:=u.p1.drop.p1.drop;exact⟨_,rfl,u.fresh⟩
 have XV:=Ni hr cK ht U E M;refine aQ fL (G.ext u.aG) cK ht (λ_ ajX=>bW t.kind lM ajX rfl rfl λ_ ajY=>aD bM ajY (aH (aC (λJO=>?_) λJO=>⟨λW w'=>W=.bool (decide (t.kind=1)&&gK t.text)/\St w aZ [bY PW (j0 (⟨bX,0,0,0⟩:ea))] w',aQ fL (G.ext u.aG) cK ht (λ_ ajZ=>bW t.kind lM ajZ rfl rfl λ_ aj0=>aD bM aj0 (aH (aC (λzJ=>aQ fL (G.ext u.aG) cK ht λ_ aj1=>bW t.text nB aj1 rfl rfl λ_ aj2=>aD gw aj2 (aV uy u (C211 _ _ cK) λ_ _ u=>⟨vb (by rw[ez zJ];rfl),u⟩)) λzJ=>⟨vb (by rw[fN zJ];rfl),u⟩))),?_⟩)))
 .refine aQ fL (G.ext u.aG) cK ht (λ_ aj3=>bW t.n se aj3 rfl rfl λ_ aj4=>have u:=u.drew;aD bM aj4 (aQ fL (G.ext u.aG) cK ht λ_ aj5=>bW t.at_ lO aj5 rfl rfl λ_ Pk=>aD bM Pk (pop (IY _ _ _) (aN cK (bD ([(⟨1,t.n,(kh #[]),t.at_⟩:cA)]) u gX rfl rfl (dL rfl) λax6 _ u=>?_)))));obtain⟨S2,rfl⟩:=u.fJ;refine pop (zo _ _ _ _) (aI (x:=(⟨S2,(i+1),0,0⟩:ea)) u.p1 fX rfl rfl λ_ u=>aD fX u.At ?_);have I:r=(⟨[(⟨1,t.n,(kh #[]),t.at_⟩:cA)],(i+1),0,0⟩:fM):=XV.trans (ew JO)
  rw[I];have u:=u.p1.freeze.dN (Ψ:=(λw=>mh w (⟨S2,(i+1),0,0⟩:ea) (⟨[(⟨1,t.n,(kh #[]),t.at_⟩:cA)],(i+1),0,0⟩:fM))) (λ_ h=>⟨_,rfl,DL.j1 h⟩);have u:=u.p1.drop;exact⟨_,rfl,u.fresh⟩
 rintro _ _ ⟨rfl,u⟩ _;refine aY (λQq=>?_) (λQq=>?_)
 .refine aQ fL (G.ext u.aG) cK ht (λ_ aj6=>bW t.text nB aj6 rfl rfl λ_ aj7=>have u:=u.drew;aD gw aj7 (aQ fL (G.ext u.aG) cK ht λ_ aj8=>bW t.at_ lO aj8 rfl rfl λ_ Pl=>aD bM Pl (pop (IZ _ _ _) (aN cK (bD ([(⟨2,0,t.text,t.at_⟩:cA)]) u gX rfl rfl (dL rfl) λax7 _ u=>?_)))));obtain⟨S3,rfl⟩:=u.fJ;refine pop (zo _ _ _ _) (aI (x:=(⟨S3,(i+1),0,0⟩:ea)) u.p1 fX rfl rfl λ_ u=>aD fX u.At ?_);have I:r=(⟨[(⟨2,0,t.text,t.at_⟩:cA)],(i+1),0,0⟩:fM):=XV.trans ((ej JO).trans (ew Qq))
  rw[I];have u:=u.p1.freeze.dN (Ψ:=(λw=>mh w (⟨S3,(i+1),0,0⟩:ea) (⟨[(⟨2,0,t.text,t.at_⟩:cA)],(i+1),0,0⟩:fM))) (λ_ h=>⟨_,rfl,DL.j1 h⟩);have u:=u.p1.drop;exact⟨_,rfl,u.fresh⟩
 refine dO Rx (C320 _ l i 5 _ (G.ext u.aG) Z) ?_;rintro _ _ ⟨att,rfl,O⟩;have u:=u.made O;obtain⟨Nk,aen,_⟩:=u.eD;subst aen;refine aI (x:=(⟨Nk,(gq l i 5).to,(gq l i 5).e,(gq l i 5).at_⟩:ea)) u.p1 fX rfl rfl (λ_ u=>aD fX u.At ?_);have I:r=(⟨(gq l i 5).l,(gq l i 5).to,(gq l i 5).e,(gq l i 5).at_⟩:fM):=XV.trans ((ej JO).trans (ej (by simpa using Qq)));rw[I];have u:=u.p1.dN (Ψ:=(λw=>mh w (⟨Nk,(gq l i 5).to,(gq l i 5).e,(gq l i 5).at_⟩:ea) (⟨(gq l i 5).l,(gq l i 5).to,(gq l i 5).e,(gq l i 5).at_⟩:fM))) (λ_ h=>⟨_,rfl,lH h⟩)
 have u:=u.p1.drop;exact⟨_,rfl,u.fresh⟩
end Go.Proofs.YtpdlpabnlkofmaaGreatDoor

/-
  Part 5.
-/
import Derived.Test.YtpdlpabnlkofmaaGreatDoorR7x4
set_option maxHeartbeats 8000000
set_option linter.all false
set_option maxRecDepth 100000
open Go.Fw.Flat renaming val->hM,enc->hZ,sz->l2,len->yb,pos->Yw
open ByteArray renaming mk->ia
open List renaming getElem?_eq_some_iff->j0,mem_of_getElem?->kp,take_of_length_le->kE,getElem?_eq_getElem->kO,length_append->kU,length_take->lY,length_singleton->l0,length_map->mE,getElem?_eq_none->mW,append_assoc->nk,getD_eq_getElem?_getD->n0,mem_map->n5,length_cons->ob,mem_cons_self->oi,getElem?_map->oj,append_nil->oo,mem_cons_of_mem->pd,replicate->qV,mem_cons->sk,length_eq_zero_iff->ta,take_add_one->uT,any_eq_true->v7,range->wx,foldl_append->EC,range_succ->Hr,getElem?_range->H3,getElem?_drop->IT,getElem?_take->Jd,flatMap_append->K0,mem_flatMap->Qb
open Nat renaming zero_le->la,le_refl->o1,le_trans->te,le_of_ble_eq_true->CU,lt_succ_self->L2,lt_or_ge->P2,mul_pos->abE
open Go.Instr renaming build->l1,sliceAt->nT,sliceBounds->vC,box->yB
open Option renaming bind_some->ma,some->n4,toList_some->JD
open Go.Fw.Deep renaming dr->mv
open Go.Value renaming int->ng,slice->yA
open Int renaming toNat_natCast->qb
open Decidable renaming not_not->vy
open Bool renaming true_and->Bt,not_false->OZ
namespace Go.Proofs.YtpdlpabnlkofmaaGreatDoor
open Go.Fw
def ly(l:List bI)(c:Int):Option Int:=(l.reverse.find? λx=>decide (x.kind=3/\x.cell=c)).map (·.n)
def C307(y sv:Value)(b:Nat)(xs:List bI)(J:Nat->g7)(M:g7)(w:World)(hn:xs.length<=1073741824)
  (B:∀k W,J k W->Cell W b 0 sv/\cZ (λ_=>True) W sv xs) (G:J 0 w)
  (Y:∀k x W,xs.reverse[k]?=some x->J k W->kD g6 y [hH ((xs.length:Int)-1-k),hM x] W λv O=>(v=.bool true/\J (k+1) O)\/(v=.bool false/\M O)) :
  CR 307 [y,.pointer (some ⟨b,0,none⟩)] w (λ_ W=>J xs.length W\/M W):=by
 refine ada _ _ _ _ ?_;unfold S307;refine bX iS (B 0 w G).1 (aH fW (B 0 w G).2 (fr bM ?_));refine⟨λm x u=>∃k:Nat,x=hH ((xs.length:Int)-1-k)/\m=xs.length-k/\k<=xs.length/\J k u,⟨_,0,ee,rfl,la _,G⟩,?_⟩;rintro m _ u ⟨k,rfl,rfl,hk,I⟩ _;refine cQ (aC (λc=>?_) λc=>?_)
 .obtain⟨h1,h2⟩:=B k u I;have Z:k<xs.length:=bM
  have V:xs.reverse[k]?=some (xs[xs.length-1-k]'(bM)):=cJ
  refine bX iS h1 (aN fW h2 bM (x:=xs[xs.length-1-k]'(bM)) (by simp_all) λq U=>aD iv U ?_);obtain E:=Y k _ u V I;refine kD.mono E ?_;rintro v w2 (⟨rfl,Bs⟩|⟨rfl,HY⟩)
  .refine bQ (ft (fr bM ?_))
   grind
  refine bQ (gU ?_)
  grind
 grind
def C276(sv:Value)(w:World)(h1:wF sv=true):CR 276 [sv] w (λv w'=>∃b,v=.func (.func 307) [].toArray [.pointer (some ⟨b,0,none⟩)].toArray/\kP (bY b [sv]) w w'):=by
 have u:=St.start w;refine eZ Tryz.func276 ?_;exact nx u h1 (λb _ u=>⟨b,rfl,u.fresh⟩)
theorem Ic{α:Type}{p:α->Bool}{l:List α}{k:Nat}{x:α}(B:∀y∈l.take k,p y=false)(E:l[k]?=some x)(G:p x=true):l.find? p=some x:=by
 rw[List.find?_eq_some_iff_getElem]
 have I:=(j0.1 E)
 obtain⟨u,J⟩:=I
 refine⟨G,k,u,J,λj M=>?_⟩
 have:=B (l[j]'(bM)) (List.mem_take_iff_getElem.2 ⟨j,bM,rfl⟩)
 simp[this]
def C226(p:Nat)(c room:Int)(l:List bI)(w:World)(hb:ue w p room l)(hn:l.length<=1048576) :
  CR 226 [.pointer (some ⟨p,0,none⟩),hH c] w (λv w'=>v=.tuple #[hH ((ly l c).getD 0),.bool (ly l c).isSome]/\Ext w w'):=by
 obtain⟨sv,Dv,vA,hL⟩:=hb;have u:=St.start w;refine eZ Tryz.func226 ?_;refine nx u rfl (λb3 _ u=>gG u uA rfl λb4 _ u=>gG u Xw rfl λb5 _ u=>aE (aA kM (bX iS (vA.ext u.aF) (dO aof (C276 sv _ hL.one) ?_))));rintro _ _ ⟨b,rfl,cK⟩;have u:=u.made cK
 refine wW (cap:=[.pointer (some ⟨b,0,none⟩)]) (xs:=(wx l.length).map fun (k:Nat)=>[ng .i64 ((l.length:Int)-1-k),hM ((l.reverse[k]?).getD ⟨0,0,0,0⟩)]) aor u
  (λk M=>M=[bY b [sv],bY b5 [.bool false],bY b4 [hH 0],bY b3 [hH c]]/\∀y∈l.reverse.take k,decide (y.kind=3/\y.cell=c)=false)
  (λcd M=>cd=.ret/\∃x,ly l c=some x/\M=[bY b5 [.bool true],bY b4 [hH x]])
  ⟨rfl,ee⟩ ee ?_ ?_ ?_ ?_ ?_ ?_
 ·
  intro y J Jx W hJ ZQ UF hy;refine(C307 y sv b l J Jx W bM (λk W E=>?_) UF λk x W G E=>?_).mono λ_ _ r=>r.mono λv W' h=>?_
  .obtain⟨Y,M,⟨rfl,_⟩,hS⟩:=hJ k W E;exact⟨hS.p1.hb.cell rfl,hL.ext hS.aF⟩
  .have I:=(j0.1 G).1;rw[List.length_reverse]at I;have:=hy k [ng .i64 ((l.length:Int)-1-k),hM x] W (by rw[oj,H3 I];simp[G]) E;exact this
  simpa using h
 ·
  rintro k args Y1 Y2 B Kr M W E ⟨rfl,U⟩ hB hN hR u
  have I:k<l.length:=by
   have:=(j0.1 E).1
   simpa using this
  obtain⟨x,G⟩:∃x,l.reverse[k]?=some x:=⟨_,kO (by simpa using I)⟩
  have ha:args=[ng .i64 ((l.length:Int)-1-k),hM x]:=by
   rw[oj,H3 I]at E;simp[G]at E;exact E.symm
  subst ha;dsimp only[Ez];refine aR u rq (λb7 _ u=>EG u iv rfl dC (by simp[wF,jd]) λ_ u=>?_);refine hB _ _ _ u.p1 (λw8 u=>?_);have e7:jd [ng IntKind.i64 0,hH 0,hH 0,hH 0] 0 [ng .i64 x.kind,hH x.line,hH x.cell,hH x.n]=hZ x:=rfl;refine⟨_,?_,λ_ _ h=>h⟩;refine aA gM (aB bO u.p1.hb rfl (aG ?_))
  have no:¬ (x.kind=3/\x.cell=c)->Kr none w8:=λO=>by
   refine hN _ _ u.p1.drop.p0 ⟨rfl,?_⟩;exact dW U G (by simpa using O)
  refine aC (λc1=>?_) (λc1=>?_)
  .refine aA mn (aB bO u.p1.hb rfl (aB bO u.p5.hb rfl (aG ?_)));intro ry;refine aC (λZ=>aA oW (aB bO u.p1.hb rfl (aW u.p4 bO (CU rfl) rfl λ_ u=>aW u.p4 G0 (CU rfl) rfl λ_ u=>hR _ [bY b5 [.bool true],bY b4 [hH x.n]] _ u.p5.drop.p4.drop.p3.drop.p2 ⟨rfl,x.n,?_,rfl⟩))) (λZ=>no λO=>Z O.2);unfold ly;rw[Ic U G (by simpa using⟨c1,Z⟩)];rfl
  intro ry;exact ft (no λO=>c1 O.1)
 ·
  rintro D M W ⟨rfl,U⟩ u;refine aW u.p3 bO (CU rfl) rfl (λ_ u=>aW u.p3 G0 (CU rfl) rfl λ_ u=>?_);refine EO u.p2 (λV u=>?_);refine aB bO u.p1.hb rfl (aB G0 u.hb rfl ?_)
  have:ly l c=none:=by
   unfold ly
   rw[show l.reverse.find? _=none from List.find?_eq_none.2 λy hy=>by
    have:=U y (by rw[kE ee];exact hy);simp only[this];exact Bool.false_ne_true]
   rfl
  rw[this];exact⟨rfl,u.aF⟩
 .rintro D M W ⟨_,x,hl,rfl⟩ u;refine EO u (λV u=>?_);refine aB bO u.p1.hb rfl (aB G0 u.hb rfl ?_);rw[hl];exact⟨rfl,u.aF⟩
 .rintro id D M W ⟨h,_⟩;cases h
 rintro c M ⟨h,_⟩;exact .inr h
theorem J7{α:Type}(l:List α)(i:Nat):([]++l.take i)++l.drop (i+1)=l.eraseIdx i:=by
 grind
def J8{α:Type}{xs ys:List α}{k:Nat}{e f:α}(h:xs.take k=ys.take k)(h1:xs[k]?=some e)(h2:ys[k]?=some f)(u:e=f):xs.take (k+1)=ys.take (k+1):=by
 rw[uT,uT,h,h1,h2,u]
def Vj{α:Type}{xs ys:List α}{k:Nat}{e f:α}(h1:xs[k]?=some e)(h2:ys[k]?=some f)(u:¬ e=f):¬ xs=ys:=by
 grind
theorem QT{l:List bI}{c:Int}{k:Nat}{x:bI}(G:∀y∈l.drop (k+1),¬ (y.kind=3/\y.cell=c))(u:l[k]?=some x)(I:x.kind=3/\x.cell=c):ly l c=some x.n:=by
 unfold ly
 have E:=(j0.1 u).1
 rw[Ic (k:=l.length-1-k) (x:=x) ?_ ?_ cJ]
 .rfl
 .intro y B
  have:y∈l.drop (k+1):=by
   rw[List.take_reverse]at B
   grind
  grind
 grind
theorem QU{l:List bI}{c:Int}(u:∀y∈l,¬ (y.kind=3/\y.cell=c)):ly l c=none:=by
 grind[ly]
def Ty{l:List bI}{c:Int}{k:Nat}{x:bI}(G:∀y∈l.drop (k+1),¬ (y.kind=3/\y.cell=c))(B:l[k]?=some x)(I:¬ (x.kind=3/\x.cell=c)):∀y∈l.drop k,¬ (y.kind=3/\y.cell=c):=by
 intro y E
 obtain⟨u,J⟩:=j0.1 B
 rw[List.drop_eq_getElem_cons u]at E
 grind
def aeZ{l:List bI}{i:Int}{k:Nat}{x y:bI}(B:0<=i)(h1:i<l.length)(u:l[i.toNat]?=some x)(I:k<i.toNat)(E:l[k]?=some y)(G:jX x y=false):rB l i=false:=by
 rw[Tv B h1 u]
 have:(l.take i.toNat).any (λy=>!jX x y)=true:=by
  rw[v7]
  exact⟨y,List.mem_iff_getElem?.2 ⟨k,cJ⟩,cJ⟩
 grind
def aag{l:List bI}{i:Int}{x:bI}(E:0<=i)(h1:i<l.length)(u:l[i.toNat]?=some x)(B:∀y∈l.take i.toNat,jX x y=true):rB l i=true:=by
 grind[rB]
def C49(room:Int)(w:World):CR 49 [hH room] w (λv w'=>((room<1\/16<room)/\v=.tuple #[.pointer none,hH 1]/\Ext w w')\/(1<=room/\room<=16/\∃b,v=.tuple #[.pointer (some ⟨b,0,none⟩),hH 0]/\kP (jg b room []) w w')):=by
 have u:=St.start w;refine eZ Tryz.func49 ?_;refine⟨_,?_,λ_ _ h=>h⟩;refine aQ (aC (λB=>?_) λB=>?_)
 .intro E;exact gU (.inl ⟨bM,rfl,u.aF⟩)
 refine cP ?_;intro E;exact aC (λ_=>.inl ⟨bM,rfl,u.aF⟩) (λ_=>pop (XM _) (ny u λb _ u=>have u:=(u.eV (α:=bI)).p1;.inr ⟨bM,bM,b,rfl,(jg.shut u).fresh⟩))
def C58(room:Int)(w:World):CR 58 [hH room] w (λv w'=>((room<1\/16<room)/\v=.tuple #[.pointer none,hH 1]/\Ext w w')\/(1<=room/\room<=16/\∃b,v=.tuple #[.pointer (some ⟨b,0,none⟩),hH 0]/\kP (jg b room []) w w')):=by
 have u:=St.start w;refine eZ Tryz.func58 ?_;refine⟨_,?_,λ_ _ h=>h⟩;refine aQ (aC (λB=>?_) λB=>?_)
 .intro E;exact gU (.inl ⟨bM,rfl,u.aF⟩)
 refine cP ?_;intro E;exact aC (λ_=>.inl ⟨bM,rfl,u.aF⟩) (λ_=>pop (XN _) (ny u λb _ u=>have u:=(u.eV (α:=bI)).p1;.inr ⟨bM,bM,b,rfl,(jg.shut u).fresh⟩))
def C71(M O:Value)(xs ys:List Int)(w:World)(J:cZ (λ_=>True) w M xs)(V:cZ (λ_=>True) w O ys)(Z:xs.length<=1073741824):CR 71 [M,O] w (λv w'=>v=.bool (decide (xs=ys))/\Ext w w'):=by
 have u:=St.start w;refine py Tryz.func71 (pl:=P71) ?_;refine aH cR (J.ext u.aF) (aH cR (V.ext u.aF) (bV (aC (λ_=>⟨vb (ez (by rintro rfl;omega)).symm,u.aF⟩) λgN=>?_)));refine⟨λm x U=>∃k:Nat,x=hH (k:Int)/\m=xs.length-k/\k<=xs.length/\xs.take k=ys.take k/\St w aZ [] U,⟨_,0,rfl,rfl,la _,rfl,u⟩,?_⟩;rintro m _ U ⟨k,rfl,rfl,hk,B,u⟩ _;refine aH cR (J.ext u.aF) (aQ (aC (λjy=>?_) λ_=>⟨vb (ew (by rw[kE bM,kE bM]at B;exact B)).symm,u.aF⟩));obtain⟨lU,G⟩:=gx xs (i:=(k:Int).toNat) bM
 refine aN cR (J.ext u.aF) bM G (λ_ W=>have u:=u.drew;aD bO W ?_);obtain⟨qA,E⟩:=gx ys (i:=(k:Int).toNat) bM;exact aN cR (V.ext u.aF) bM E (λ_ Y=>aD bO Y (bV (aC (λI=>⟨vb (ez (Vj G E I)).symm,u.aF⟩) λI=>aK bM ⟨xs.length-(k+1),bM,k+1,rfl,rfl,bM,J8 B G E (vy.1 I),u⟩)))
def C229(p:Nat)(c room:Int)(l:List bI)(w:World)(hb:ue w p room l)(hn:l.length<=1073741824):CR 229 [.pointer (some ⟨p,0,none⟩),hH c] w (λv w'=>v=.tuple #[hH ((ly l c).getD 0),.bool (ly l c).isSome]/\Ext w w'):=by
 obtain⟨sv,Dv,I,J⟩:=hb;have u:=St.start w;refine ac0 _ _ _ _ ?_;unfold S229;refine aE (aA iI (bX iS (I.ext u.aF) (aH fW (J.ext u.aF) (fr bM ?_))));refine⟨λm x V=>∃k:Nat,x=hH ((k:Int)-1)/\m=k/\k<=l.length/\(∀y∈l.drop k,¬ (y.kind=3/\y.cell=c))/\St w aZ [] V,⟨_,l.length,rfl,rfl,o1 _,ee,u⟩,?_⟩;rintro k _ V ⟨_,rfl,rfl,hk,G,u⟩ _;refine cQ (aC (λjy=>?_) λjy=>?_)
 .refine⟨_,?_,λ_ _ h=>h⟩;refine aE (aA iI (bX iS (I.ext u.aF) ?_));obtain⟨E,B⟩:=gx l (i:=((k:Int)-1).toNat) bM;refine aN fW (J.ext u.aF) bM B (λ_ Y=>bU E.kind gM Y rfl rfl λ_ W=>aD bO W (aG (aC (λO=>?_) λO=>?_)))
  .refine aE (aA iI (bX iS (I.ext u.aF) (aN fW (J.ext u.aF) bM B λ_ xt=>bU E.cell mn xt rfl rfl λ_ q8=>aD bO q8 (aG ?_))));intro Z;refine aC (λM=>?_) (λM=>fr bM ⟨k-1,bM,k-1,by congr 1;omega,rfl,bM,Ty (x:=E) (by rw[show k-1+1=k from bM];exact G) (by rw[<- B];congr 1;omega) (λU=>M U.2),u⟩);refine aE (aA iI (bX iS (I.ext u.aF) (aN fW (J.ext u.aF) bM B λ_ vX=>bU E.n oW vX rfl rfl λ_ uU=>aD bO uU ?_)))
   rw[QT (k:=k-1) (x:=E) (by rw[show k-1+1=k from bM];exact G) (by rw[<- B];congr 1;omega) ⟨O,M⟩];exact⟨rfl,u.aF⟩
  intro Z;exact ft (fr bM ⟨k-1,bM,k-1,by congr 1;omega,rfl,bM,Ty (x:=E) (by rw[show k-1+1=k from bM];exact G) (by rw[<- B];congr 1;omega) (λU=>O U.1),u⟩)
 rw[QU (by rw[show k=0 from bM]at G;simpa using G)];exact⟨rfl,u.aF⟩
def C151(p:Nat)(i room:Int)(l:List bI)(w:World)(hb:ue w p room l)(hn:l.length<=1073741824):CR 151 [.pointer (some ⟨p,0,none⟩),hH i] w (λv w'=>v=.bool (rB l i)/\Ext w w'):=by
 obtain⟨sv,Dv,I,M⟩:=hb;have u:=St.start w;refine py Tryz.func151 (pl:=avV) ?_;refine⟨_,?_,λ_ _ h=>h⟩;refine aQ (aC (λW=>?_) λW=>?_)
 .intro Z;exact gU ⟨vb (lW bM).symm,u.aF⟩
 refine aE (aA iI (bX iS (I.ext u.aF) (aH fW (M.ext u.aF) (cQ ?_))));intro Z;refine aC (λ_=>⟨vb (lW bM).symm,u.aF⟩) (λep=>?_);refine⟨λm x V=>∃k:Nat,x=hH (k:Int)/\m=i.toNat-k/\(k:Int)<=i/\(∀x y,l[i.toNat]?=some x->y∈l.take k->jX x y=true)/\St w aZ [] V,⟨_,0,rfl,rfl,bM,ee,u⟩,?_⟩;rintro m _ V ⟨k,rfl,rfl,hk,O,u⟩ _;refine aQ (aC (λfu=>?_) λfu=>⟨vb (aag (x:=l[i.toNat]'(bM)) bM bM (kO _) λy B=>O _ y (kO _) (by rw[show k=i.toNat from bM];exact B)).symm,u.aF⟩)
 refine aE (aA iI (have u:=u.drew;bX iS (I.ext u.aF) ?_));obtain⟨F4,J⟩:=gx l (i:=(i).toNat) bM;refine aN fW (M.ext u.aF) bM J (λ_ sn=>aD iv sn (aE (aA iI (bX iS (I.ext u.aF) ?_))));obtain⟨uV,E⟩:=gx l (i:=(k:Int).toNat) bM;refine aN fW (M.ext u.aF) bM E (λ_ Y=>aD iv Y (aV anZ u (C222 _ _ _) λ_ he u=>bQ (aY (λG=>⟨vb (aeZ bM bM J bM E (by simpa using G)).symm,u.aF⟩) λG=>aK bM ?_)));refine⟨i.toNat-(k+1),bM,k+1,rfl,rfl,bM,λx y U B=>?_,u⟩
 rw[n4.inj (U.symm.trans J)]at *;exact dW (φ:=λy=>jX F4 y=true) (λy B=>O _ y U B) E (by simpa using G) y B
def C81(p:Nat)(room:Int)(l:List bI)(w:World)(hb:ue w p room l)(hn:l.length<=1048576):CR 81 [.pointer (some ⟨p,0,none⟩)] w (λv w'=>kP (bH v (pC l)) w w'):=by
 have I:=hb;obtain⟨sv,Y,U,V⟩:=hb;have u:=St.start w;refine eZ Tryz.func81 ?_;refine bD ([]:List Int) u cR rfl rfl (dR rfl) (λPK G u=>?_);refine⟨λm o x G=>∃k:Nat,x=hH (k:Int)/\m=l.length-k/\k<=l.length/\St w aZ [bH o (sI l k)] G,⟨_,0,rfl,rfl,la _,u⟩,?_⟩;rintro m o _ G ⟨k,rfl,rfl,hk,u⟩ _;have Fu:=H8 l k;refine aE (aA iI (bX iS (U.ext u.aF) (aH fW (V.ext u.aF) (aQ (aC (λJ=>⟨_,aV agu u (C151 _ _ _ _ _ (I.ext u.aF) bM) (λ_ Z u=>aY (λE=>?_) λE=>?_),λ_ _ h=>h⟩) λJ=>?_)))))
 .refine bD ([(k:Int)]:List Int) u cR rfl rfl (dR rfl) (λO _ u=>?_);have B:=u.dS;refine bL u.p1 cR B (by simp<;>omega) dC (λW _ u=>?_);have u:=u.p1.drop;intro M;exact aK bM ⟨l.length-(k+1),bM,k+1,rfl,rfl,bM,by rw[FX E];exact u⟩
 .intro M;exact aK bM ⟨l.length-(k+1),bM,k+1,rfl,rfl,bM,by rw[H9 E];exact u⟩
 rw[FY l bM]at u;exact u.fresh
def C230(p:Nat)(room:Int)(l:List bI)(x:bI)(F:Nat->Prop)(w:World)(O:(jg p room l).p w F)(V:l.length<=1048576):CR 230 [.pointer (some ⟨p,0,none⟩),hM x] w (λv w'=>v=hH (Nm room l x)/\mP F (jg p room (sJ room l x)) w w'):=by
 have u:=St.begin O;obtain⟨sv,u⟩:=u.eg;have u:=u.split;refine py Tryz.func230 (pl:=av9) ?_;refine cH u (λI _ u=>aD iv u.At (aV aog u (C277 _ _) λ_ U u=>bQ (aY (λB=>?_) λB=>aE (aA iI (have u:=u.drew;aB iS u.p1.hb rfl (aH fW u.p2.dS (aE (aA XH (aB bO u.p1.hb rfl (cQ (aC (λE=>?_) λE=>?_)))))))))))
 .have u:=u.p2.p2;rw[Nn (by simpa using B),No (by simpa using B)];exact⟨rfl,(jg.shut u).mut⟩
 .have u:=u.p2.p2;rw[Ia (by simpa using B) E,Ib E];exact⟨rfl,(jg.shut u).mut⟩
 refine aE (aA iI (have u:=u.drew;aB iS u.p1.hb rfl (aD iv u.At (bD ([x]) u fW rfl rfl (dR rfl) λG _ u=>?_))));refine⟨aI iS (u.p2.hb.cell rfl),?_⟩;have M:=u.dS;refine bL u.p3 fW M (by simp<;>omega) dC (λJ _ u=>have u:=u.p1.drop;aE (aA iI (aW u.p2 iS (dR rfl) u.dS.one λ_ u=>?_)));have u:=u.p1.p1;rw[Tw (by simpa using B) E,Tx (by simpa using B) E];exact⟨rfl,(jg.shut u).mut⟩
def C165(p:Nat)(room:Int)(l:List bI)(i:Int)(F:Nat->Prop)(w:World)(hF:(jg p room l).p w F)(hn:l.length<=1048576):CR 165 [.pointer (some ⟨p,0,none⟩),hH i] w (λv w'=>v=.tuple #[hM (dH l i),hH (xC l i)]/\mP F (jg p room (jO l i)) w w'):=by
 have u:=St.begin hF;obtain⟨sv,u⟩:=u.eg;have u:=u.split;refine acW _ _ _ _ ?_;unfold S165;refine aR u rq (λPO _ u=>?_);refine⟨_,?_,λ_ _ h=>h⟩;refine aQ (aC (λZ=>?_) λZ=>?_)
 .intro ry;refine gU (pop ym (aJ (x:=(⟨0,0,0,0⟩:bI)) u iv rfl rfl λJ u=>aD iv u.At ?_));have u:=u.p2.p2;rw[rN (lW bM),yv bM,rO (lW bM)];exact⟨rfl,(jg.shut u).mut⟩
 refine aE (aA iI (aB iS u.p1.hb rfl (aH fW u.p2.dS (cQ ?_))));intro ry;refine aC (λlP=>?_) (λlP=>aV agu u (C151 _ _ _ _ _ (ue.mk' u.p1.hb u.p2.dS) bM) λ_ he u=>bQ (aY (λB=>?_) λB=>?_))
 .refine pop ym (aJ (x:=(⟨0,0,0,0⟩:bI)) u iv rfl rfl λJ u=>aD iv u.At ?_);have u:=u.p2.p2;rw[rN (lW bM),yv bM,rO (lW bM)];exact⟨rfl,(jg.shut u).mut⟩
 .refine pop ym (aJ (x:=(⟨0,0,0,0⟩:bI)) u iv rfl rfl λ_ u=>aD iv u.At ?_);have u:=u.p2.p2;rw[rN (by simpa using B),Np bM (by simpa using B),rO (by simpa using B)];exact⟨rfl,(jg.shut u).mut⟩
 refine aE (aA iI (aB iS u.p1.hb rfl ?_));obtain⟨I,G⟩:=gx l (i:=(i).toNat) bM;refine dM u.p2 fW bM bM (λ_ my=>fZ u.p2 iv my G (aR u rq λQS _ u=>aJ (x:=I) u iv rfl rfl λ_ u=>bD ([]:List bI) u fW rfl rfl (dR rfl) λO _ u=>aE (aA iI (aB iS u.p3.hb rfl (Ch fW u.p4.dS bM bM λV W=>?_)))));have E:=W;refine bL u fW E (by simp<;>omega) dC (λU _ u=>aE (aA iI (aB iS u.p3.hb rfl (aK bM (Ci fW u.p4.dS bM bM λarL M=>?_)))))
 have Y:=M;refine bL u fW Y (by simp<;>omega) dC (λarM _ u=>aE (aA iI (aW u.p3 iS (dR rfl) u.dS.one λ_ u=>aD iv u.p2.At (aJ (x:=I) u.p3 iv rfl rfl λ_ u=>aD iv u.At ?_))));have u:=u.p2.p2;rw[Nr (by simpa using B) G,Nq (by simpa using B),Ns (by simpa using B),<- J7,<- show(i+1).toNat=i.toNat+1 from bM];exact⟨rfl,(jg.shut u).mut⟩
structure Mem where
 of:List Int
 dZ:List Int
 l:List Int
 kept:List Int
 fF:Int->List kh
def fT(of:List Int):Int:=if of.length=0 then 0 else of.getD (of.length-1) 0+1
def nK(k:List Int)(ws:List kh):List Int:=ws.foldl (λk w=>k.set w.cell.toNat w.n) k
theorem xD(ws:List kh):∀k:List Int,(nK k ws).length=k.length:=by
 induction ws with
 | nil=>intro k;rfl
 | cons x ws u=>simp_all[nK]
theorem CH(ws:List kh)(x:kh)(k:List Int):nK k (ws++[x])=(nK k ws).set x.cell.toNat x.n:=by
 unfold nK;grind
theorem Ie{ws:List kh}{j:Nat}{x:kh}{k:List Int}(u:ws[j]?=some x):nK k (ws.take (j+1))=(nK k (ws.take j)).set x.cell.toNat x.n:=by
 rw[uT,u];exact CH _ _ _
def G7(m:Mem)(cell:Int):Bool:=decide (0<=cell/\cell<m.l.length)
def fh(m:Mem)(cell n:Int):Mem:=if G7 m cell=true then {m with l:=m.l.set cell.toNat n,fF:=if cell<m.of.length then pP m.fF (m.of.getD cell.toNat 0) (m.fF (m.of.getD cell.toNat 0)++[⟨cell,n⟩])else m.fF}else m
def F5(m:Mem)(line:Int):Bool:=decide (0<=line/\line<fT m.of)
def oe(m:Mem)(line:Int):Mem:=if F5 m line=true then {m with kept:=nK m.kept (m.fF line),fF:=pP m.fF line []}else m
structure ve(m:Mem):Prop where
 KV:m.of.length<=m.dZ.length
 fl:m.dZ.length<=20
 ll:m.l.length=m.dZ.length
 kl:m.kept.length=m.of.length
 ofr:∀n∈m.of,0<=n/\n<fT m.of
 lb:fT m.of<=20
 pc:∀k,∀x∈m.fF k,0<=x.cell/\x.cell<m.of.length
def MB(m:Mem)(n:Nat):Prop:=∀k,(m.fF k).length<=n
def iM(p:Nat)(ov fv:Value)(m:Mem):HP:=pK λlv=>pK λkv=>pK λpm=>sep (bY p [ov,fv,lv,kv,.map (some pm)]) (sep (bH lv m.l) (sep (bH kv m.kept) (q7 pm m.fF)))
def Bx(ov fv:Value)(m:Mem)(w:World):Prop:=cZ (λ_=>True) w ov m.of/\cZ (λ_=>True) w fv m.dZ
def yO(w:World)(p:Nat)(m:Mem):Prop:=∃ov fv lv kv pm,Cell w p 0 ov/\Cell w p 1 fv/\Cell w p 2 lv/\Cell w p 3 kv/\Cell w p 4 (.map (some pm))/\cZ (λ_=>True) w ov m.of/\cZ (λ_=>True) w fv m.dZ/\cZ (λ_=>True) w lv m.l/\cZ (λ_=>True) w kv m.kept/\vV w pm m.fF
section
variable {w w' w0:World}{A F:Nat->Prop}{R:List HP}{p:Nat}{ov fv lv kv:Value}{m:Mem}{pm:Nat}
theorem yO.ext(h:yO w p m)(e:Ext w w'):yO w' p m:=by
 obtain⟨ov,fv,lv,kv,pm,u,B,G,E,I,J,h1,h2,h3,h4⟩:=h
 exact⟨ov,fv,lv,kv,pm,u.ext e,B.ext e,G.ext e,E.ext e,I.ext e,J.ext e,h1.ext e,h2.ext e,h3.ext e,h4.ext e⟩
theorem yO.mk'(h:qd w p [ov,fv,lv,kv,.map (some pm)])(u:Bx ov fv m w)(h2:cZ (λ_=>True) w lv m.l)(h3:cZ (λ_=>True) w kv m.kept)(h4:vV w pm m.fF):yO w p m:=
 ⟨ov,fv,lv,kv,pm,h.cell rfl,h.cell rfl,h.cell rfl,h.cell rfl,h.cell rfl,u.1,u.2,h2,h3,h4⟩
theorem iM.open(u:St w0 A (iM p ov fv m::R) w):∃lv kv pm,St w0 A (bY p [ov,fv,lv,kv,.map (some pm)]::bH lv m.l::bH kv m.kept::q7 pm m.fF::R) w:=by
 obtain⟨lv,u⟩:=u.eg;obtain⟨kv,u⟩:=u.eg;obtain⟨pm,u⟩:=u.eg
 have h1:=u.split
 have h2:=h1.p1.split
 have h3:=h2.p1.split
 exact⟨lv,kv,pm,h3.p2.p3⟩
theorem iM.shut(u:St w0 A (bY p [ov,fv,lv,kv,.map (some pm)]::bH lv m.l::bH kv m.kept::q7 pm m.fF::R) w):St w0 A (iM p ov fv m::R) w:=by
 have h1:St w0 A (sep (bH kv m.kept) (q7 pm m.fF)::bY p [ov,fv,lv,kv,.map (some pm)]::bH lv m.l::R) w:=St.join u.p3.p3
 have h2:St w0 A (sep (bH lv m.l) (sep (bH kv m.kept) (q7 pm m.fF))::bY p [ov,fv,lv,kv,.map (some pm)]::R) w:=St.join h1.p2
 exact St.eh lv (St.eh kv (St.eh pm (St.join h2.p1)))
theorem J9(u:St w0 A (iM p ov fv m::R) w)(B:Bx ov fv m w):yO w p m:=by
 obtain⟨lv,kv,pm,u⟩:=iM.open u
 exact yO.mk' u.hb B u.p1.dS u.p2.dS u.p3.YA
end
def C148(p:Nat)(m:Mem)(w:World)(J:yO w p m)(B:ve m):CR 148 [(.pointer (some ⟨p,0,none⟩))] w (λv w'=>v=hH (fT m.of)/\Ext w w'):=by
 have W:=J;obtain⟨ov,fv,lv,kv,pm,G,c1,Z,c3,Y,I,O1,hL,U,hP⟩:=J;have KW:=B.fl;have JN:=B.KV;have zI:=B.ll;have B4:=B.kl;have V:=B.lb;have u:=St.start w;refine py Tryz.func148 (pl:=avU) ?_;refine aE (aA wT (bX eO (G.ext u.aF) (aH cR (I.ext u.aF) (aG (aC (λ_=>⟨fM (ng .i64) (by unfold fT;rw[ej bM]),u.aF⟩) λgJ=>aE (aA wT (have u:=u.drew;bX eO (G.ext u.aF) (aE (aA wT (bX eO (G.ext u.aF) (aH cR (I.ext u.aF) (fr bM ?_))))))))))));obtain⟨lU,E⟩:=gx m.of (i:=((m.of.length:Int)-1).toNat) bM
 refine aN cR I bM E (λ_ O=>aD bO (O.ext u.aF) ?_);have M:=B.ofr _ (kp E);exact aK bM ⟨fM (ng .i64) (by unfold fT;rw[ei bM,n0,show m.of.length-1=((m.of.length:Int)-1).toNat from bM,E];rfl),u.aF⟩
def C227(p:Nat)(m:Mem)(cell:Int)(w:World)(E:yO w p m)(hk:ve m):CR 227 [(.pointer (some ⟨p,0,none⟩)),hH cell] w (λv w'=>v=.tuple #[hH (if G7 m cell=true then m.l.getD cell.toNat 0 else 0),hH (if G7 m cell=true then 0 else 1)]/\Ext w w'):=by
 have Y:=E;obtain⟨ov,fv,lv,kv,pm,c0,c1,G,c3,Z,hO,O1,J,U,hP⟩:=E;have u:=St.start w;refine eZ Tryz.func227 ?_;refine⟨λW w'=>W=.bool (decide (cell<0\/m.l.length<=cell))/\w=w',aQ (aC (λ_=>⟨OU bM,rfl⟩) λ_=>aE (aA r7 (bX eO (G.ext u.aF) (aH cR (J.ext u.aF) (cQ ⟨yJ bM,rfl⟩))))),?_⟩;rintro _ _ ⟨rfl,O⟩ _;subst O;refine aC (λV=>?_) (λV=>?_)
 .have B:G7 m cell=false:=by unfold G7;rw[decide_eq_false_iff_not];omega
  rw[B];exact⟨rfl,u.aF⟩
 refine aE (aA r7 (bX eO (G.ext u.aF) ?_));obtain⟨FZ,I⟩:=gx m.l (i:=cell.toNat) bM;refine aN cR J bM I (λ_ M=>aD bO (M.ext u.aF) ?_);have B:G7 m cell=true:=by unfold G7;rw[decide_eq_true_eq];omega
 rw[B,n0,I];exact⟨rfl,u.aF⟩
def C144(p:Nat)(m:Mem)(w:World)(E:yO w p m)(B:ve m):CR 144 [(.pointer (some ⟨p,0,none⟩))] w (λv w'=>kP (bH v m.l) w w'):=by
 have O:=E;obtain⟨ov,fv,lv,kv,pm,Z,c1,G,V,U,hO,O1,J,I,Y⟩:=E;have W:=B.fl;have JN:=B.KV;have zI:=B.ll;have B4:=B.kl;have M:=B.lb;have u:=St.start w;refine eZ Tryz.func144 ?_;exact aE (aA r7 (bX eO (G.ext u.aF) (dT Pk u (C83 _ _ _ (J.ext u.aF) bM) λ_ _ _ u=>u.fresh)))
def C145(p:Nat)(m:Mem)(w:World)(G:yO w p m)(B:ve m):CR 145 [(.pointer (some ⟨p,0,none⟩))] w (λv w'=>kP (bH v m.kept) w w'):=by
 have M:=G;obtain⟨ov,fv,lv,kv,pm,Y,c1,U,I,O,Z,O1,hL,E,W⟩:=G;have V:=B.fl;have JN:=B.KV;have zI:=B.ll;have B4:=B.kl;have J:=B.lb;have u:=St.start w;refine eZ Tryz.func145 ?_;exact aE (aA AP (bX eO (I.ext u.aF) (dT Pk u (C83 _ _ _ (E.ext u.aF) bM) λ_ _ _ u=>u.fresh)))
def C156(p:Nat)(ov fv:Value)(m:Mem)(F:Nat->Prop)(cell n:Int)(w:World)(hF:(iM p ov fv m).p w F)(M:∀w',gz F w w'->Bx ov fv m w')(E:ve m)(hb:MB m 1000000):CR 156 [(.pointer (some ⟨p,0,none⟩)),hH cell,hH n] w (λv w'=>v=hH (if G7 m cell=true then 0 else 1)/\mP F (iM p ov fv (fh m cell n)) w w'):=by
 have u:=St.begin hF;obtain⟨lv,kv,pm,u⟩:=iM.open u;have KW:=E.fl;have JN:=E.KV;have zI:=E.ll;have B4:=E.kl;have Mp:=E.lb;refine py Tryz.func156 (pl:=avW) ?_;refine⟨λjv w'=>jv=.bool (decide (cell<0\/m.l.length<=cell))/\w=w',aQ (aC (λ_=>⟨OU bM,rfl⟩) λ_=>aE (aA r7 (aB eO u.hb rfl (aH cR u.p1.dS (cQ ⟨yJ bM,rfl⟩))))),?_⟩;rintro _ _ ⟨rfl,Z⟩ _;subst Z;refine aC (λlP=>?_) (λlP=>?_)
 .have u:=u.p3.p3.p3.p3;have G:G7 m cell=false:=by unfold G7;rw[decide_eq_false_iff_not];omega
  unfold fh;rw[G];exact⟨rfl,(iM.shut u).mut⟩
 have G:G7 m cell=true:=by unfold G7;rw[decide_eq_true_eq];omega
 refine aE (aA r7 (aB eO u.hb rfl ?_));obtain⟨Tz,F6⟩:=gx m.l (i:=cell.toNat) bM;refine dM u.p1 cR bM bM (λ_ Y=>jo _ u.p1 bO Y bM λ_ u=>⟨λw'=>St w F [iM p ov fv (fh m cell n)] w',aE (aA wT (aB eO u.p1.hb rfl (aH cR (M _ u.aF).1 (aQ (aC (λj6=>?_) λj6=>?_))))),?_⟩)
 .refine aE (aA wT (aB eO u.p1.hb rfl ?_));obtain⟨I,O⟩:=gx m.of (i:=cell.toNat) bM;refine aN cR (M _ u.aF).1 bM O (λ_ V=>aD bO V (aE (aA r8 (have u:=u.drew;aB yX u.p1.hb rfl (aE (aA r8 (aB yX u.p1.hb rfl ?_)))))));have hbx:=hb I;obtain⟨J,u⟩:=u.p3.Mz (k:=I);refine⟨_,u.p1.Cr Tryz.underlying185 LH AQ,?_⟩;refine pop (Pw _ _) (bD ([(⟨cell,n⟩:kh)]) u C5 rfl rfl (dR rfl) λW _ u=>?_);refine⟨aI yX (u.p4.hb.cell rfl),?_⟩;refine⟨aI yX (u.p4.hb.cell rfl),?_⟩
  refine⟨u.p2.Cr Tryz.underlying185 LH AQ,?_⟩;have Qg:=u.dS;refine bL u.p1 C5 Qg (by simp;omega) dC (λU _ u=>?_);have u:=u.p1.drop;refine⟨aI yX (u.p3.hb.cell rfl),?_⟩;obtain⟨F7,rfl⟩:=u.fV;have u:=u.p1.p1;refine MA u Tryz.underlying185 LH (λ_ u=>?_);have u:=u.p3.p2.p3;have B:fh m cell n={m with l:=m.l.set cell.toNat n,fF:=pP m.fF I (m.fF I++[⟨cell,n⟩])}:=by unfold fh;rw[ej G,ej bM,n0,O];rfl
  rw[B];exact iM.shut (m:={m with l:=_,fF:=_}) u
 .have u:=u.p3.p3.p2.p3;have B:fh m cell n={m with l:=m.l.set cell.toNat n}:=by unfold fh;rw[ej G,ei bM]
  rw[B];exact iM.shut (m:={m with l:=_,fF:=_}) u
 intro _ u _;exact⟨by rw[G];rfl,u.mut⟩
def TA(m:Mem)(cut:List Int):Bool:=decide ((cut.length:Int)=fT m.of)&&(wx cut.length).all λi=>decide (0<=cut.getD i 0/\cut.getD i 0<=(m.fF i).length)
def oI(m:Mem)(cut:List Int)(k:Nat):List Int:=(wx k).foldl (λo (i:Nat)=>nK o ((m.fF i).take (cut.getD i 0).toNat)) m.kept
def fo(m:Mem)(cut:List Int):Option (List Int):=if TA m cut=true then some (oI m cut cut.length)else none
theorem uW(m:Mem)(cut:List Int)(k:Nat):oI m cut (k+1)=nK (oI m cut k) ((m.fF k).take (cut.getD k 0).toNat):=by
 unfold oI;rw[Hr,EC];rfl
theorem mF(m:Mem)(cut:List Int):∀k,(oI m cut k).length=m.kept.length
 | 0=>rfl
 | k+1=>by rw[uW,xD,mF]
def Nt{m:Mem}{cut:List Int}{k:Nat}{c:Int}(hc:cut[k]?=some c)(h:¬ (0<=c/\c<=(m.fF k).length)):fo m cut=none:=by
 unfold fo;grind[TA,oI]
def Nu{m:Mem}{cut:List Int}(h:(cut.length:Int)≠fT m.of):fo m cut=none:=by
 unfold fo TA;grind
def yw{m:Mem}{cut:List Int}(h:(cut.length:Int)=fT m.of)(hc:∀(k:Nat) (c:Int),k<cut.length->cut[k]?=some c->0<=c/\c<=(m.fF k).length):fo m cut=some (oI m cut cut.length):=by
 unfold fo;grind[TA,oI]
def F8(m:Mem)(n:Nat):List Nat:=(wx n).map fun (i:Nat)=>(m.fF i).length
theorem F9{m:Mem}{n i:Nat}(h:i<n):(F8 m n)[i]?=some (m.fF i).length:=by
 unfold F8;rw[oj,H3 h];rfl
def mG(m:Mem)(u:List Int):Mem:={m with kept:=u,l:=u++m.dZ.drop u.length,fF:=λ_=>[]}
def C157(p:Nat)(ov fv:Value)(m:Mem)(F:Nat->Prop)(line:Int)(w:World)(hF:(iM p ov fv m).p w F)(V:∀w',gz F w w'->Bx ov fv m w')(B:ve m)(hb:MB m 1000000):CR 157 [(.pointer (some ⟨p,0,none⟩)),hH line] w (λv w'=>v=hH (if F5 m line=true then 0 else 1)/\mP F (iM p ov fv (oe m line)) w w'):=by
 have u:=St.begin hF;obtain⟨lv,kv,pm,u⟩:=iM.open u;have KW:=B.fl;have JN:=B.KV;have zI:=B.ll;have B4:=B.kl;have Mp:=B.lb;refine py Tryz.func157 (pl:=avX) ?_;refine⟨λjv w'=>jv=.bool (decide (line<0\/fT m.of<=line))/\St w F [bY p [ov,fv,lv,kv,.map (some pm)],bH lv m.l,bH kv m.kept,q7 pm m.fF] w',aQ (aC (λ_=>⟨vb (by first|exact(ew bM).symm|exact e8.2 bM),u⟩) λ_=>aV agt u (C148 _ m _ (yO.mk' u.hb (V _ u.aF) u.p1.dS u.p2.dS u.p3.YA) B) λ_ _ u=>cQ ⟨vb (by first|exact(ew bM).symm|exact e8.2 bM),u⟩),?_⟩
 rintro _ _ ⟨rfl,u⟩ _;refine aC (λjy=>?_) (λjy=>?_)
 .have u:=u.p3.p3.p3.p3;have G:F5 m line=false:=by unfold F5;rw[decide_eq_false_iff_not];omega
  unfold oe;rw[G];exact⟨rfl,(iM.shut u).mut⟩
 refine aE (aA r8 (aB yX u.hb rfl ?_));obtain⟨E,u⟩:=u.p3.Mz (k:=line);refine⟨_,u.p1.Cr Tryz.underlying185 LH AQ,?_⟩;have HI:=hb line;refine aH C5 u.dS ?_;have u:=u.p3.p3.p4.p4.p4;refine⟨λO x Z=>∃k:Nat,x=hH (k:Int)/\O=(m.fF line).length-k/\k<=(m.fF line).length/\St w F [bH (hM E) (m.fF line),My pm m.fF line E,bH kv (nK m.kept ((m.fF line).take k)),bY p [ov,fv,lv,kv,.map (some pm)],bH lv m.l] Z,⟨_,0,rfl,rfl,la _,u⟩,?_⟩;rintro O _ _ ⟨k,rfl,rfl,xo,u⟩ _;refine aQ (aC (λU=>?_) λU=>?_)
 .obtain⟨I,J⟩:=gx (m.fF line) (i:=(k:Int).toNat) bM;refine dM u C5 bM bM (λ_ xd=>?_);have hpc:=B.pc line _ (kp J);refine fZ u Sy xd J (aR u Sz λM _ u=>aJ (x:=I) u Sy rfl rfl λ_ u=>aE (aA AP (have u:=u.drew;aB eO u.p4.hb rfl (aA LY ?_))));have Ym:=xD ((m.fF line).take k) m.kept;refine aB (v:=hH I.cell) bO u.hb rfl (aA LZ (aB (v:=hH I.n) bO u.hb rfl ?_));obtain⟨uV,pe⟩:=gx (nK m.kept ((m.fF line).take k)) (i:=I.cell.toNat) bM
  exact dM u.p3 cR bM bM (λ_ Y=>jo _ u.p3 bO Y bM λ_ u=>aK bM (have u:=u.p1.drop.p4.p4.p2.p4.p4;⟨_,bM,k+1,rfl,rfl,bM,by rw[Ie (j:=k) J];exact u⟩))
 rw[kE bM]at u;refine aE (aA r8 (aB yX u.p3.hb rfl ?_));have u:=u.p1.p1.YB;rw[UW]at u;refine MC u rfl Tryz.underlying185 LH (λ_ _ u=>?_);have u:=u.p1.p3.p3;have G:F5 m line=true:=by unfold F5;rw[decide_eq_true_eq];omega
 have W:oe m line={m with kept:=nK m.kept (m.fF line),fF:=pP m.fF line []}:=by unfold oe;rw[ej G]
 rw[W,G];exact⟨rfl,(iM.shut (m:={m with kept:=_,fF:=_}) u).mut⟩
def C150(p:Nat)(m:Mem)(cut:List Int)(cv:Value)(w:World)(hm:yO w p m)(E:ve m)(hb:MB m 1000000)(O:cZ (λ_=>True) w cv cut)(QX:cut.length<=1000):CR 150 [(.pointer (some ⟨p,0,none⟩)),cv] w (λv w'=>(fo m cut=none/\v=.tuple #[.slice none 0 0,hH 1]/\Ext w w')\/∃Z o,fo m cut=some Z/\v=.tuple #[o,hH 0]/\kP (bH o Z) w w'):=by
 have Ig:=hm;obtain⟨ov,fv,lv,kv,pm,c0,c1,c2,c3,c4,hO,O1,hL,hKp,hP⟩:=hm;have KW:=E.fl;have JN:=E.KV;have zI:=E.ll;have B4:=E.kl;have Mp:=E.lb;have u:=St.start w;refine eZ Tryz.func150 ?_;refine aH cR (O.ext u.aF) (aV agt u (C148 _ m _ (Ig.ext u.aF) E) λI he u=>bV (aC (λ_=>.inl ⟨Nu bM,rfl,u.aF⟩) λjl=>dT anO u (C145 _ m _ (Ig.ext u.aF) E) λU5 _ cK u=>aH cR (O.ext u.aF) ?_));refine⟨λG x I=>∃k:Nat,x=hH (k:Int)/\G=cut.length-k/\k<=cut.length/\(∀(i:Nat) (c:Int),i<k->cut[i]?=some c->0<=c/\c<=(m.fF i).length)/\St w aZ [bH U5 (oI m cut k)] I,⟨_,0,rfl,rfl,la _,λ_ _ h=>absurd h bM,u⟩,?_⟩
 rintro G _ w3 ⟨k,rfl,rfl,xo,jT,u⟩ _;refine aQ (aC (λkQ=>?_) λ_=>.inr ⟨_,_,yw bM (λi c _ hc=>jT i c bM hc),rfl,by rw[show cut.length=k from bM];exact u.fresh⟩);obtain⟨B,J⟩:=gx cut (i:=(k:Int).toNat) bM;refine aN cR O bM J (λ_ qB=>aD bO (qB.ext u.aF) ⟨λjv w'=>jv=.bool (decide (B<0\/(m.fF k).length<B))/\w3=w',aQ (aC (λ_=>⟨OU bM,rfl⟩) λ_=>aE (aA r8 (bX yX (c4.ext u.aF) (HO hP u.aF Tryz.underlying185 LH AQ λ_ xz=>aH C5 (xz.ext u.aF) (cP ⟨yJ bM,rfl⟩))))),?_⟩)
 rintro _ _ ⟨rfl,hw⟩ _;subst hw;refine aC (λ_=>.inl ⟨Nt (k:=k) J bM,rfl,u.aF⟩) (λo8=>aE (aA r8 (bX yX (c4.ext u.aF) (HO hP u.aF Tryz.underlying185 LH AQ λahw vX=>?_))));have hbk:=hb k;have Pp:((m.fF k).take B.toNat).length<=(m.fF k).length:=by rw[lY];omega
 refine jL C5 (vX.ext u.aF) bM bM (λaro QK=>?_);have Y:=QK _ vX;refine aH C5 (Y.ext u.aF) ?_;refine⟨λG x I=>∃j:Nat,x=hH (j:Int)/\G=((m.fF k).take B.toNat).length-j/\j<=((m.fF k).take B.toNat).length/\St w aZ [bH U5 (nK (oI m cut k) (((m.fF k).take B.toNat).take j))] I,⟨_,0,rfl,rfl,la _,u⟩,?_⟩;rintro G _ _ ⟨j,rfl,rfl,hj,u⟩ _;refine aQ (aC (λxu=>?_) λxu=>?_)
 .obtain⟨M,U⟩:=gx ((m.fF (k:Int)).take B.toNat) (i:=(j:Int).toNat) bM;refine aN C5 Y bM U (λ_ Fs=>?_);have hpc:=E.pc k _ (List.mem_of_mem_take (kp U));refine aD Sy (Fs.ext u.aF) (aR u Sz λW _ u=>aJ (x:=M) u Sy rfl rfl λ_ u=>aA LY ?_);have Ym:=xD (((m.fF k).take B.toNat).take j) (oI m cut k);have hil:=mF m cut k;refine aB (v:=hH M.cell) bO u.hb rfl (aA LZ (aB (v:=hH M.n) bO u.hb rfl ?_));obtain⟨V,ayJ⟩:=gx (nK (oI m cut k) (((m.fF k).take B.toNat).take j)) (i:=M.cell.toNat) bM
  exact dM u.p1 cR bM bM (λ_ Nv=>jo _ u.p1 bO Nv bM λ_ u=>aK bM (have u:=u.p1.drop;⟨_,bM,j+1,rfl,rfl,bM,by rw[Ie (j:=j) U];exact u⟩))
 rw[kE (i:=j) bM]at u;refine aK bM ⟨_,bM,k+1,rfl,rfl,bM,λi c hi hc=>?_,?_⟩
 .by_cases e:i=k
  .subst e;obtain rfl:=n4.inj (hc.symm.trans J);omega
  exact jT i c bM hc
 rw[uW,n0,show cut[k]?=some B from J];exact u
def C86(p:Nat)(ov fv:Value)(m:Mem)(F:Nat->Prop)(cut:List Int)(cv:Value)(w:World)(hF:(iM p ov fv m).p w F)(V:∀w',gz F w w'->Bx ov fv m w')(E:ve m)(hb:MB m 1000000)(hC:∀w',gz F w w'->cZ (λ_=>True) w' cv cut)(QX:cut.length<=1000):CR 86 [(.pointer (some ⟨p,0,none⟩)),cv] w (λv w'=>(fo m cut=none/\v=hH 1/\mP F (iM p ov fv m) w w')\/∃Y,fo m cut=some Y/\v=hH 0/\mP F (iM p ov fv (mG m Y)) w w'):=by
 have u:=St.begin hF;obtain⟨lv,kv,pm,u⟩:=iM.open u;have KW:=E.fl;have JN:=E.KV;have zI:=E.ll;have W:=E.kl;have Mp:=E.lb;refine py Tryz.func86 (pl:=P86) ?_;refine dO anP (C150 _ m cut _ _ (yO.mk' u.hb (V _ u.aF) u.p1.dS u.p2.dS u.p3.YA) E hb (hC _ u.aF) bM) ?_;rintro G _ M
 rcases M with⟨B,rfl,Z⟩|⟨I,U,B,rfl,cK⟩
 .have u:=u.ext Z;exact aO rfl (aO rfl (bV (j5 dC (have u:=u.p3.p3.p3.p3;.inl ⟨B,rfl,(iM.shut u).mut⟩))))
 have u:=u.made cK;refine aO rfl (aO rfl (bV (fJ dC (aE (aA AP (aW u.p1 eO (dR rfl) u.dS.one λ_ u=>aE (aA r7 (have u:=u.drew;aB eO u.hb rfl (aE (aA XG (aB eO u.hb rfl ?_)))))))))));refine MD u.p2 cR (V _ u.aF).2 bM (λ_ u=>aE (aA r7 (aB eO u.p1.hb rfl (MD u cR u.p2.dS (by rw[kU,List.length_drop];have J:I.length=m.of.length:=(by unfold fo at B;split at B<;>simp at B;rw[<- B,mF];exact W);omega) λ_ u=>Bf (α:=kh) u λO _ u=>aE (aA r8 (aW u.p2 yX (dR rfl) (rfl) λ_ u=>?_))))))
 have u:=u.p4.drop.p4.drop.p1.p3.p3.p3;have J:I.length=m.of.length:=by unfold fo at B;split at B<;>simp at B;rw[<- B,mF];exact W
 rw[show m.l.drop m.dZ.length=[]from List.drop_eq_nil_of_le bM,oo]at u;exact .inr ⟨_,B,rfl,(iM.shut (m:=mG m I) u).mut⟩
def Kb(of:List Int)(stays:Int)(dZ:List Int):Mem:=⟨of.take stays.toNat,dZ,dZ,dZ.take stays.toNat,λ_=>[]⟩
def er:List Nat->List (List Int)
 | []=>[[]]
 | p::ps=>(wx (p+1)).flatMap fun (i:Nat)=>(er ps).map λt=>(i:Int)::t
theorem xE:∀{ps:List Nat}{c:List Int},c∈er ps->c.length=ps.length
 | [],c,h=>by simp[er]at h;grind
 | p::ps,c,h=>by
  simp only[er,Qb,n5]at h
  obtain⟨i,_,t,ht,rfl⟩:=h
  simp[xE ht]
theorem CI:∀{ps:List Nat}{c:List Int}{i p:Nat}{n:Int},c∈er ps->ps[i]?=some p->c[i]?=some n->0<=n/\n<=p
 | [],c,i,p,n,h,u,_=>by simp at u
 | q::ps,c,i,p,n,h,u,hc=>by
  simp only[er,Qb,n5,List.mem_range]at h
  obtain⟨j,B,t,ht,rfl⟩:=h
  cases i with
  | zero=>grind
  | succ i=>
   rw[List.getElem?_cons_succ]at u hc
   exact CI ht u hc
def G8(f:List Int->List Int)(l:List (List Int)):List (List Int)×List (List Int):=l.foldl (λs c=>if f c∈s.2 then s else(s.1++[c],s.2++[f c])) ([],[])
theorem xF(f:List Int->List Int)(l:List (List Int))(c:List Int):G8 f (l++[c])=if f c∈(G8 f l).2 then G8 f l else((G8 f l).1++[c],(G8 f l).2++[f c]):=by
 unfold G8;grind
theorem Nw(f:List Int->List Int):∀(l:List (List Int)) (s:List (List Int)×List (List Int)),(l.foldl (λs c=>if f c∈s.2 then s else(s.1++[c],s.2++[f c])) s).1.length<=s.1.length+l.length
 | [],s=>o1 _
 | c::l,s=>by
  rw[List.foldl_cons]
  refine te (Nw f l _) ?_
  grind
def Kc(f:List Int->List Int)(l:List (List Int)):(G8 f l).1.length<=l.length:=by
 have h:(G8 f l).1.length<=([]:List (List Int)).length+l.length:=Nw f l ([],[])
 grind
def Vk(xs:List Int):List Int:=xs++qV (20-xs.length) 0
def Nx(m:Mem)(c:List Int):List Int:=Vk (oI m c c.length)
def wB(m:Mem):List Nat:=F8 m (fT m.of).toNat
def By(m:Mem):List (List Int):=(G8 (Nx m) (er (wB m))).1
theorem Eb(m:Mem):(wB m).length=(fT m.of).toNat:=by unfold wB F8;simp
def mX{m:Mem}(B:ve m):0<=fT m.of:=by
 unfold fT;split
 .omega
 rename_i h
 have u:m.of.getD (m.of.length-1) 0∈m.of:=cJ
 have:=(B.ofr _ u).1
 omega
def C53(of dZ:List Int)(stays:Int)(av bv:Value)(w:World)(B:cZ (λ_=>True) w av of)(J:cZ (λ_=>True) w bv dZ)(hlen:of.length=dZ.length)(KW:of.length<=20)(iY:0<=stays/\stays<=of.length)(GL:∀(k:Nat) (n:Int),(k:Int)<stays->of[k]?=some n->(n=tI of k\/(0<k/\n=tI of k-1))/\-10<=n/\n<=100):CR 53 [av,hH stays,bv] w (λv w'=>∃(p:Nat) (ov fv:SV),v=.tuple #[.pointer (some ⟨p,0,none⟩),hH 0]/\kP (sep (bH (hM ov) (of.take stays.toNat)) (sep (bH (hM fv) dZ) (iM p (hM ov) (hM fv) (Kb of stays dZ)))) w w'):=by
 have u:=St.start w;refine eZ Tryz.func53 ?_;refine⟨λU w'=>U=.bool (decide (of.length≠dZ.length\/20<of.length\/stays<0\/of.length<stays))/\w=w',aH cR (B.ext u.aF) (aH cR (J.ext u.aF) (bV (aC (λ_=>⟨OU bM,rfl⟩) λ_=>aH cR (B.ext u.aF) (cP (aC (λ_=>⟨OU bM,rfl⟩) λ_=>aQ (aC (λ_=>⟨OU bM,rfl⟩) λ_=>aH cR (B.ext u.aF) (cP ⟨yJ bM,rfl⟩))))))),?_⟩;rintro _ w1 ⟨rfl,hw⟩ _;subst hw;refine aC (λl9=>absurd l9 bM) (λl9=>jL cR (B.ext u.aF) bM bM λO Z=>?_);have I:=Z _ B
 refine aH cR (I.ext u.aF) ?_;refine⟨λmm l x w1=>∃(k:Nat) (last:Int),l=hH last/\x=hH (k:Int)/\mm=(of.take stays.toNat).length-k/\k<=(of.take stays.toNat).length/\last=tI of k-1/\-200<=last/\last<=200/\St w aZ [] w1,⟨_,0,-1,rfl,rfl,rfl,la _,rfl,bM,bM,u⟩,?_⟩;rintro mm _ _ w2 ⟨k,last,rfl,rfl,rfl,xo,Y,hl7,hl8,u⟩ _;have Pp:(of.take stays.toNat).length=stays.toNat:=by rw[lY];omega
 refine aQ (aC (λo8=>?_) λo8=>?_)
 .obtain⟨G,vD⟩:=gx (of.take stays.toNat) (i:=(k:Int).toNat) bM;refine aN cR I bM vD (λ_ xm=>?_)
  have E:of[k]?=some G:=by
   have M:=vD;rw[Jd]at M
   split at M
   .exact M
   .cases M
  obtain⟨hl1,GI,hl3⟩:=GL k _ bM E;refine aD bO (xm.ext u.aF) ⟨λU w'=>U=.bool (decide (G≠last+1/\(k=0\/G≠last)))/\w2=w',aK bM (bV (aC (λ_=>aG (aC (λ_=>⟨OU bM,rfl⟩) λ_=>bV ⟨yJ bM,rfl⟩)) λ_=>⟨Xd bM,rfl⟩)),?_⟩;rintro _ _ ⟨rfl,hw⟩ _;subst hw;refine aC (λC9=>absurd C9 (by have:=GL k G bM E;simp;omega)) (λC9=>?_);have hws:tI of (k+1)=G+1:=by unfold tI;rw[ei bM,Nat.add_sub_cancel,n0,E];rfl
  exact aK bM ⟨_,bM,k+1,G,rfl,rfl,rfl,bM,bM,bM,bM,u⟩
 refine jL cR (B.ext u.aF) bM bM (λarP V=>?_);have akn:=V _ B;refine dT Pk u (C83 _ _ _ (akn.ext u.aF) (by first|omega|(rw[lY];omega))) (λx59 _ cK u=>dT Pk u (C83 _ _ _ (J.ext u.aF) (by first|omega|(rw[lY];omega))) λx61 _ cK u=>dT Pk u (C83 _ _ _ (J.ext u.aF) (by first|omega|(rw[lY];omega))) λx63 _ cK u=>Bf (α:=kh) u λb_x64 _ u=>?_);obtain⟨W,rfl⟩:=u.p3.fV;obtain⟨akp,rfl⟩:=u.p2.fV;obtain⟨ayK,rfl⟩:=u.p1.fV;refine pop (EM _ _ _ _ _ _ _ _ _ _) (ny u λarQ _ u=>jL cR (J.ext u.aF) bM bM λahK akq=>?_)
 have akr:=akq _ J;exact dT Pk u (C83 _ _ _ (akr.ext u.aF) (by first|omega|(rw[lY];omega))) (λ_ _ _ u=>aE (aA AP (aW u.p1 eO (dR rfl) u.dS.one λ_ u=>have u:=iM.shut (m:=Kb of stays dZ) u.p4.p5.p4.p4.p5.p5;⟨arQ,W,akp,rfl,(St.join (St.join u.p2).p1).fresh⟩)))
def ae0:List Int->Int->Int
 | [],n=>n
 | c::cs,n=>ae0 cs (B2 (B2 (n*10000)+c))
def qG(l:List Int)(k:Nat):Int:=ae0 (l.take k) 0
theorem Ih:∀(l:List Int) (c n:Int),ae0 (l++[c]) n=B2 (B2 (ae0 l n*10000)+c)
 | [],_,_=>rfl
 | x::l,c,n=>Ih l c _
theorem Ga{l:List Int}{k:Nat}{c:Int}(h:l[k]?=some c):qG l (k+1)=B2 (B2 (qG l k*10000)+c):=by
 unfold qG;rw[uT,h];exact Ih _ _ _
def nd(p q:aS):Bool:=decide (q.kind=p.kind)&&decide (q.t=p.t)&&decide (q.i=p.i)&&decide (p.cut.length=0)
def pk3(s:SV):aM:=⟨3,0,0,s⟩
theorem ae1{w:World}{u:List SV}{cs:List (List Int)}(h:fR u cs w):fR (u.map pk3) (cs.map λc=>(⟨3,0,0,c⟩:aS)) w:=by
 refine⟨by simp[h.1],λi t x a b=>?_⟩
 rw[oj]at a b
 cases hs:u[i]? with
 | none=>rw[hs]at a;cases a
 | some s=>
  cases hc:cs[i]? with
  | none=>rw[hc]at b;cases b
  | some c=>
   rw[hs]at a;rw[hc]at b
   simp at a b;subst a b
   exact⟨s,rfl,h.2 i s c hs hc⟩
def C154(sv fv:Value)(xs:List aS)(φ:aS->Prop)(g:aS->Bool)(w:World)(hL:DL w sv xs)(hf:tG g6 w fv φ g)(Y:∀x∈xs,φ x)(hn:xs.length<=1073741824):CR 154 [sv,fv] w (λv w'=>v=hH (si g xs)/\Ext w w'):=by
 obtain⟨g0,first,cap,rfl,nU,jZ⟩:=hf;have u:=St.start w;refine eZ Tryz.func154 ?_;obtain⟨J,B,E⟩:=hL.open;have O:=E.1;refine aH gH (B.ext u.aF) ?_;refine⟨λm x M=>∃k:Nat,x=hH (k:Int)/\m=xs.length-k/\k<=xs.length/\(∀y∈xs.take k,g y=false)/\St w aZ [] M,⟨_,0,rfl,rfl,la _,ee,u⟩,?_⟩;rintro m _ M ⟨k,rfl,rfl,hk,G,u⟩ _;refine aQ (aC (λjC=>?_) λ_=>⟨fM (ng .i64) (ja (by rw[kE bM]at G;exact G)).symm,u.aF⟩);obtain⟨ix,V⟩:=gx J (i:=(k:Int).toNat) bM;obtain⟨zi,I⟩:=gx xs (i:=(k:Int).toNat) bM
 obtain⟨Z,rfl,Vm⟩:=E.2 _ _ _ V I;refine aN gH B bM V (λ_ ij=>aD lf (ij.ext u.aF) (gZ nU (jZ _ zi M u.aF ⟨Z,rfl,(Vm.ext u.aF)⟩ (Y _ (kp I))) ?_));rintro _ _ ⟨rfl,W⟩;have u:=u.ext W;exact aY (λU=>⟨fM (ng .i64) (l8 G I U).symm,u.aF⟩) (λU=>aK bM ⟨_,bM,k+1,rfl,rfl,bM,dW G I U,u⟩)
def C89(sv fv:Value)(xs:List aS)(φ:aS->Prop)(g:aS->Bool)(w:World)(G:DL w sv xs)(E:tG g6 w fv φ g)(B:∀x∈xs,φ x)(I:xs.length<=1073741824):CR 89 [sv,fv] w (λv w'=>v=.bool (xs.any g)/\Ext w w'):=by
 have u:=St.start w;refine eZ Tryz.func89 ?_;exact aV anR u (C154 _ _ _ _ _ _ (G.ext u.aF) (E.ext u.aF) B bM) (λ_ _ u=>cQ ⟨vb (kR _ _),u.aF⟩)
def jA(m:Mem)(c:Int):Int:=if G7 m c=true then m.l.getD c.toNat 0 else 0
def ahN(p:Nat)(m:Mem)(c:Int)(w:World)(u:yO w p m)(B:ve m):CR 227 [.pointer (some ⟨p,0,none⟩),hH c] w (λv w'=>v=.tuple #[hH (jA m c),hH (if G7 m c=true then 0 else 1)]/\Ext w w'):=C227 p m c w u B
def Ii(m:Mem)(c n:Int):(fh m c n).of=m.of:=by unfold fh;grind
def uf(m:Mem)(c n:Int):(fh m c n).dZ=m.dZ:=by unfold fh;grind
def ae2(m:Mem)(c:Int):(oe m c).of=m.of:=by unfold oe;grind
def Ny(m:Mem)(c:Int):(oe m c).dZ=m.dZ:=by unfold oe;grind
def Bx.write{ov fv:Value}{m:Mem}{w:World}{c n:Int}(h:Bx ov fv m w):Bx ov fv (fh m c n) w:=by grind[Bx,fh]
theorem Bx.out{ov fv:Value}{m:Mem}{w:World}{c:Int}(h:Bx ov fv m w):Bx ov fv (oe m c) w:=by grind[Bx,oe]
def jP(m:Mem)(x:bI):Mem:=if x.kind=3 then fh m x.cell x.n else if x.kind=7 then m else oe m x.line
def tg(t:Int)(x:bI):cG:=if x.kind=3 then⟨12,t,x.cell,x.n,0⟩else if x.kind=7 then⟨14,t,0,0,0⟩else⟨13,t,x.line,0,0⟩
end Go.Proofs.YtpdlpabnlkofmaaGreatDoor
namespace Go.Fw
def mf(F:Nat->Prop)(w0 w':World):Prop:=∀b,F b->w'.heap[b]?=w0.heap[b]?
section
variable {α σ:Type}[Flat σ] [D:Deep α σ] {w w0:World}{A F:Nat->Prop}{L:List HP}{v:Value}{xs:List α}{ts us:List σ}
theorem St.Bz{Φ:g7}(u:St w0 A (Fw.eA Φ::L) w):∃F,St w0 A (Fw.eA (mf F w)::L) w/\∀w',mf F w w'->Φ w':=by
 obtain⟨U,F,G,B,E,M,I,J⟩:=u.tV
 exact⟨F,⟨u.aF,U,F,G,⟨λw' h=>h,B.2⟩,E,M,I,J⟩,λw' h=>B.1 w' h⟩
theorem mf.refl(F:Nat->Prop)(w:World):mf F w w:=λ_ _=>rfl
theorem Nz(B:∀x y:σ,hZ x=hZ y->x=y):∀{ts us:List σ},ts.length=us.length->flat ts=flat us->ts=us
 | [],[],_,_=>rfl
 | t::ts,u::us,hl,h=>by
  rw[kI,kI]at h
  have:=List.append_inj h (by rw[yb,yb])
  rw[B _ _ this.1,Nz B cJ this.2]
 | [],_::_,hl,_=>by simp at hl
 | _::_,[],hl,_=>by simp at hl
theorem cZ.func{S Y:Nat->Prop}(G:∀x y:σ,hZ x=hZ y->x=y)(h:cZ S w v ts)(U:cZ Y w v us):ts=us:=by
 obtain⟨a,cap,rfl,hc,h3⟩:=h
 obtain⟨a',Du,J,W,E⟩:=U
 simp only[yA.injEq]at J
 obtain⟨rfl,I,rfl⟩:=J
 refine Nz G I (List.ext_getElem? λj=>?_)
 have tW:(flat ts).length=(flat us).length:=by rw[dA,dA,I]
 by_cases O:j<(flat ts).length
 .have B:j<(flat us).length:=bM
  rcases h3 with⟨rfl,_⟩|⟨b,o,rfl,_,h5⟩
  .grind
  rcases E with⟨rfl,_⟩|⟨b',o',M,_,u⟩
  .grind
  simp only[n4.injEq,Addr.mk.injEq,and_true]at M
  obtain⟨rfl,rfl⟩:=M
  have Z:=h5 j _ (kO O)
  have V:=u j _ (kO B)
  unfold Cell at Z V
  grind
 grind
theorem mf.rd(h:∀w',mf F w w'->DL w' v xs)(G:cZ (λ_=>True) w v ts)(hn:ts.length=xs.length):∀w',mf F w w'->cZ (λ_=>True) w' v ts:=by
 intro w' W
 have GJ:=G
 obtain⟨a,cap,rfl,hc,h3⟩:=G
 rcases h3 with⟨h3,h4⟩|⟨b,o,rfl,h4,h5⟩
 .grind[cZ]
 cases ts with
 | nil=>exact⟨_,cap,rfl,hc,.inr ⟨b,o,rfl,λh=>absurd rfl h,λj c B=>by simp[kH]at B⟩⟩
 | cons t ts=>
  by_cases Y:F b
  .exact⟨_,cap,rfl,hc,.inr ⟨b,o,rfl,λ_=>trivial,λj c B=>(h5 j c B).of_eq (W b Y)⟩⟩
  .exfalso
   have h6:DL (ChangeMaps.setBlock w b (.map #[] 0)) (.slice (some ⟨b,o,none⟩) (t::ts).length cap) xs:=h _ λO hb'=>by
    simp only[ChangeMaps.setBlock];grind
   obtain⟨us,⟨a',Du,I,_,M⟩,V,_⟩:=h6
   simp only[yA.injEq]at I
   obtain⟨rfl,E,rfl⟩:=I
   have Z:0<(flat us).length:=by rw[dA,<- E];exact abE ee (Yw (α:=σ))
   rcases M with⟨rfl,_⟩|⟨O,o',J,_,U⟩
   .simp at E
   .simp only[n4.injEq,Addr.mk.injEq,and_true]at J
    obtain⟨rfl,rfl⟩:=J
    have u:=U 0 _ (kO Z)
    have hb:=(h5 0 _ (kO (by rw[dA];exact abE ee (Yw (α:=σ))))).lt
    unfold Cell World.cell? at u
    dsimp only at u
    rw[j9 _ hb]at u
    simp at u
theorem mf.fix(B:∀x y:σ,hZ x=hZ y->x=y)(h:∀w',mf F w w'->DL w' v xs):∃ts:List σ,ts.length=xs.length/\∀w',mf F w w'->cZ (λ_=>True) w' v ts/\fR ts xs w':=by
 obtain⟨ts,I,hd⟩:=(h w (mf.refl F w)).open
 refine⟨ts,hd.1,λw' E=>?_⟩
 have h1:=mf.rd h I hd.1 w' E
 obtain⟨us,u,G⟩:=(h w' E).open
 rw[cZ.func B h1 u]at *
 grind
end
section
variable {P:Program}{T:Nat}{cx cy:Bool}{a b:Int}{K:Value->Prop}
theorem aak(h:0<=a-b/\a-b<=255)(k:K (.int .u8 (a-b))):eT P (jU .sub T cx cy (.int .u8 a) (.int .u8 b)) K:=
 ⟨_,(show pr P (jU .sub T cx cy (.int .u8 a) (.int .u8 b))=some (.int .u8 (a-b))from by
  show some (ng .u8 (IntKind.u8.wrap (a-b)))=_
  have:IntKind.u8.wrap (a-b)=a-b:=by
   unfold IntKind.wrap;simp[IntKind.bits,IntKind.signed];omega
  rw[this]),k⟩
theorem Vn{src u:TypeId}(h1:P.underlying src=some (.int .u8))(h2:P.underlying u=some (.int .i64))(h:0<=a/\a<=255)(k:K (hH a)):eT P (convert src u (.int .u8 a)) K:=by
 refine⟨_,?_,k⟩
 unfold convert
 simp only[cT,cS h1,cS h2,ma]
 show some (ng .i64 (IntKind.i64.wrap a))=_
 rw[IntWalk.i64_in _ bM]
end
end Go.Fw
namespace Go.Proofs.YtpdlpabnlkofmaaGreatDoor
open Go.Fw
abbrev PD:=List (Bk×Bool)
def jn(b:Bk)(e:Bool)(p:PD):PD:=match b with
 | .nil=>p
 | .cons x c d r=>(.cons x c d r,e)::p
def gF:PD->PD
 | (.cons _ _ _ r,_)::p=>jn r false p
 | (.nil,_)::p=>p
 | []=>[]
def pf:PD->Option (bP×Bk×Bk)
 | (.cons x a b _,_)::_=>some (x,a,b)
 | _=>none
def mH(x:bP)(a:Bk)(p:PD):PD:=if x.n=0 then gF p else jn a false ((.cons {x with n:=x.n-1} a .nil .nil,true)::gF p)
def kr:PD->PD
 | []=>[]
 | (_,e)::p=>if e=true then p else kr p
structure jS where
 names:List ByteArray
 dQ:List Int
 cD:PD
 fault:Int
 buf:List bI
def eH(t:jS)(l:List bZ):Int×Bool:=if l.length=0 then(0,true)else((qO t.names t.dQ l).1,decide ((qO t.names t.dQ l).2=0))
def pg(t:jS)(s:ByteArray)(n:Int):jS:={t with dQ:=t.dQ.set (cU t.names s).toNat n}
def qH(t:jS)(x:bP)(a b:Bk)(n:Int):jS×Bool:=
 if x.kind=1 then({pg t x.eD n with cD:=gF t.cD},true)
 else if x.kind=11 then({t with cD:=jn (if n=0 then b else a) false (gF t.cD)},true)
 else if x.kind=12 then({t with cD:=mH x a t.cD},true)
 else if x.kind=13 then({t with cD:=kr t.cD},true)
 else if x.kind=14 then(if n=0 then({t with fault:=1},false)else({t with cD:=gF t.cD},true))
 else(t,false)
def qI(t:jS):jS×Bool:=match pf t.cD with
 | none=>(t,false)
 | some (x,a,b)=>if (eH t x.e).2=true/\(eH t x.f).2=true then qH t x a b (eH t x.e).1 else({t with fault:=2},false)
def ti:Nat->jS->Option jS
 | 0,_=>none
 | n+1,t=>if (qI t).2=true then ti n (qI t).1 else some (qI t).1
def lX:Bk->Nat
 | .nil=>0
 | .cons x a b r=>(if x.kind=12 then x.n.toNat*(lX a+1)else lX a+lX b)+lX r+1
def g8(p:PD):Nat:=(p.map λq=>lX q.1).sum
theorem pW(q:Bk×Bool)(p:PD):g8 (q::p)=lX q.1+g8 p:=by simp[g8]
def DD(φ:bP->Prop):Bk->Prop
 | .nil=>True
 | .cons x a b r=>φ x/\DD φ a/\DD φ b/\DD φ r
theorem Vo{φ:bP->Prop}:∀t:Bk,DD φ t↔∀x∈t.flat,φ x:=by
 intro t
 induction t with
 | nil=>simp[DD,Bk.flat]
 | cons x a b r E B u=>
  simp only[DD,Bk.flat,E,B,u,sk,List.mem_append]
  grind
structure GM(φ:bP->Prop)(p:PD):Prop where
 ne:∀q∈p,q.1≠.nil
 st:∀q∈p,q.1.str
 al:∀q∈p,DD φ q.1
section
variable {φ:bP->Prop}{p:PD}{b:Bk}{e:Bool}
theorem GM.tail{q:Bk×Bool}(h:GM φ (q::p)):GM φ p:=⟨λq u=>h.ne q (pd _ u),λq u=>h.st q (pd _ u),λq u=>h.al q (pd _ u)⟩
theorem GM.push(h:GM φ p)(B:b.str)(G:DD φ b):GM φ (jn b e p):=by
 cases b with
 | nil=>exact h
 | cons x c d r=>
  refine⟨?_,?_,?_⟩<;>intro q u<;>rcases sk.1 u with rfl|u
  .intro E;cases E
  .exact h.ne q u
  .exact B
  .exact h.st q u
  .exact G
  .exact h.al q u
theorem GM.pop(h:GM φ p):GM φ (gF p):=by
 match p,h with
 | [],h=>exact h
 | (.nil,_)::p,h=>exact h.tail
 | (.cons x a b r,_)::p,h=>
  have u:=h.st _ (oi ..)
  have B:=h.al _ (oi ..)
  exact h.tail.push u.2.2.2.2.2.2 B.2.2.2
theorem GM.leave:∀{p:PD},GM φ p->GM φ (kr p)
 | [],h=>h
 | (_,e)::p,h=>by
  unfold kr;split
  .exact h.tail
  .exact h.tail.leave
theorem Ij{x:bP}{a b:Bk}(h:pf p=some (x,a,b)):∃r e u,p=(.cons x a b r,e)::u:=by
 match p,h with
 | (.cons y c d r,e)::u,h=>cases h;grind
theorem Ik(u:GM φ p)(h:pf p=none):p=[]:=by
 match p,u,h with
 | [],_,_=>rfl
 | (.nil,_)::_,u,_=>exact absurd rfl (u.ne _ (oi ..))
theorem sL:g8 (jn b e p)=lX b+g8 p:=by
 cases b with
 | nil=>simp[jn,lX]
 | cons x c d r=>exact pW _ _
theorem NA:∀p:PD,g8 (kr p)<=g8 p
 | []=>o1 _
 | (b,e)::p=>by
  have:=NA p
  grind[g8,kr]
theorem Vp(h:b≠.nil):1<=lX b:=by
 cases b with
 | nil=>grind
 | cons x c d r=>unfold lX;omega
theorem Ec(h:GM φ p):p.length<=g8 p:=by
 induction p with
 | nil=>simp
 | cons q p u=>
  have:=Vp (h.ne q (oi ..))
  have:=u h.tail
  rw[pW,ob];omega
theorem sM{x:bP}{a b r:Bk}:lX (.cons x a b r)=(if x.kind=12 then x.n.toNat*(lX a+1)else lX a+lX b)+lX r+1:=rfl
theorem QY{x:bP}{a b r:Bk}{u:PD}(h:p=(.cons x a b r,e)::u):g8 (gF p)+1<=g8 p:=by
 subst h
 show g8 (jn r false u)+1<=_
 rw[sL,pW,sM];omega
end
structure sN(φ:bP->Prop)(t:jS):Prop where
 p:GM φ t.cD
 rl:t.dQ.length=t.names.length
 nb:t.names.length<=1000
 bl:t.buf.length<=1000
 cl:g8 t.cD<=10000
structure Vq(cs ls ns:List ByteArray)(x:bP):Prop where
 k:1<=x.kind/\x.kind<=14
 e:x.e.length<=1000/\x.f.length<=1000
 n:x.kind=12->0<=x.n/\x.n<=1000
 el:¬ x.kind=11->x.et<=0
 rg:x.kind=1\/x.kind=2\/x.kind=4->0<=cU ns x.eD
 cl:x.kind=2\/x.kind=3\/x.kind=4->0<=cU cs x.name
 lk:x.kind=9\/x.kind=10->0<=cU ls x.name
 nm:(∀y∈x.e,y.name.size<=1000)/\∀y∈x.f,y.name.size<=1000
abbrev yx(cs ls:List ByteArray)(t:jS):Prop:=sN (Vq cs ls t.names) t
section
variable {φ:bP->Prop}{cs ls:List ByteArray}{t t' tR:jS}{x:bP}{a b:Bk}{n:Int}{k:Nat}
theorem sN.cD{p:PD}(h:sN φ t)(u:GM φ p)(hc:g8 p<=g8 t.cD):sN φ {t with cD:=p}:=⟨u,h.rl,h.nb,h.bl,te hc h.cl⟩
theorem sN.flt(h:sN φ t)(n:Int):sN φ {t with fault:=n}:=⟨h.p,h.rl,h.nb,h.bl,h.cl⟩
theorem sN.set(h:sN φ t)(s:ByteArray)(n:Int):sN φ (pg t s n):=⟨h.p,by simp[pg,h.rl],h.nb,h.bl,h.cl⟩
theorem sN.top(h:sN φ t)(ht:pf t.cD=some (x,a,b)):φ x/\a.str/\b.str/\DD φ a/\DD φ b/\x.body=a.len/\x.et=b.len/\a.len<=40/\∃r e p,t.cD=(.cons x a b r,e)::p/\r.str/\DD φ r:=by
 obtain⟨r,e,p,u⟩:=Ij ht
 have h1:=h.p
 rw[u]at h1
 obtain⟨U,B,O,E,M,J,Y⟩:=h1.st _ (oi ..)
 obtain⟨I,W,V,G⟩:=h1.al _ (oi ..)
 grind
theorem ae3(h:yx cs ls t)(ht:pf t.cD=some (x,a,b)):yx cs ls (qH t x a b n).1/\(qH t x a b n).1.names=t.names/\((qH t x a b n).2=true->g8 (qH t x a b n).1.cD+1<=g8 t.cD):=by
 obtain⟨B,W,sb,V,ab,hb,he,Ym,r,e,p,I,sr,ar⟩:=h.top ht
 have E:=h.p.pop
 have J:=QY (r:=r) I
 have u:g8 t.cD=lX (.cons x a b r)+g8 p:=by rw[I,pW]
 have O:gF t.cD=jn r false p:=by rw[I];rfl
 have U:g8 (gF t.cD)=lX r+g8 p:=by rw[O,sL]
 rw[sM]at u
 unfold qH
 split
 .exact⟨(h.set x.eD n).cD E (by show g8 (gF t.cD)<=g8 t.cD;omega),rfl,λ_=>J⟩
 split
 .rename_i Vb
  rw[ei bM]at u
  have hc:g8 (jn (if n=0 then b else a) false (gF t.cD))+1<=g8 t.cD:=by rw[sL];grind
  refine⟨h.cD (GM.push E ?_ ?_) bM,rfl,λ_=>hc⟩<;>split<;>assumption
 split
 .rename_i Vb
  rw[ej Vb]at u
  have Z:=B.n Vb
  have L6:=B.el bM
  unfold mH
  split
  .exact⟨h.cD E bM,rfl,λ_=>J⟩
  rename_i Ys
  have M:g8 (jn a false ((.cons {x with n:=x.n-1} a .nil .nil,true)::gF t.cD))+1<=g8 t.cD:=by
   rw[sL,pW,sM,ej (by exact Vb),u,U]
   have e:x.n.toNat=(x.n-1).toNat+1:=bM
   rw[e,Nat.succ_mul]
   show lX a+((x.n-1).toNat*(lX a+1)+lX .nil+1+_)+1<=_
   simp only[lX];omega
  refine⟨h.cD (GM.push ⟨?_,?_,?_⟩ W V) bM,rfl,λ_=>M⟩<;>intro q G<;>rcases sk.1 G with rfl|G
  .grind
  .exact E.ne q G
  .exact⟨hb,by show x.et=((0:Nat):Int);omega,Ym,la _,W,trivial,trivial⟩
  .exact E.st q G
  .exact⟨⟨B.k,B.e,λhk=>⟨cJ,cJ⟩,B.el,B.rg,B.cl,B.lk,B.nm⟩,V,trivial,trivial⟩
  exact E.al q G
 split
 .have Y:g8 (kr t.cD)+1<=g8 t.cD:=by
   rw[u,I];unfold kr
   have:=NA p
   grind
  exact⟨h.cD h.p.leave bM,rfl,λ_=>Y⟩
 split
 .split
  .exact⟨h.flt 1,rfl,λhh=>by cases hh⟩
  exact⟨h.cD E bM,rfl,λ_=>J⟩
 grind
theorem Ed(h:yx cs ls t):yx cs ls (qI t).1/\(qI t).1.names=t.names/\((qI t).2=true->g8 (qI t).1.cD+1<=g8 t.cD):=by
 unfold qI
 cases ht:pf t.cD with
 | none=>grind
 | some q=>
  obtain⟨x,a,b⟩:=q
  dsimp only
  split
  .exact ae3 h ht
  .exact⟨h.flt 2,rfl,λu=>by cases u⟩
theorem Il:∀(n:Nat) {t:jS},yx cs ls t->g8 t.cD<n->∃tR,ti n t=some tR/\yx cs ls tR/\tR.names=t.names
 | 0,_,_,hc=>by omega
 | n+1,t,h,hc=>by
  obtain⟨h1,h2,h3⟩:=Ed h
  unfold ti
  split
  .rename_i hs
   have:=h3 hs
   have h4:yx cs ls (qI t).1:=by have:=h1;rw[yx,h2]at this |-;exact this
   obtain⟨tR,E,u,B⟩:=Il n h4 bM
   exact⟨tR,E,u,B.trans h2⟩
  grind
def goD(t:jS):jS:=(ti (g8 t.cD+1) t).getD t
theorem qJ(h:yx cs ls t):ti (g8 t.cD+1) t=some (goD t)/\yx cs ls (goD t)/\(goD t).names=t.names:=by
 obtain⟨tR,E,u,B⟩:=Il (g8 t.cD+1) h (L2 _)
 unfold goD
 grind
theorem Im{n:Nat}(h:ti n t=some tR):∃k,n=k+1:=by
 cases n with
 | zero=>cases h
 | succ k=>grind
theorem TB(h:ti (k+1) t=some tR)(u:qI t=(t',true)):ti k t'=some tR:=by
 unfold ti at h;rw[u]at h;exact h
theorem ph(h:ti (k+1) t=some tR)(u:qI t=(t',false)):tR=t':=by
 unfold ti at h;rw[u]at h;exact(n4.inj h).symm
theorem TC:∀(n:Nat) {t tR:jS},ti n t=some tR->yx cs ls t->tR.fault=0->∀x a b,pf tR.cD=some (x,a,b)->(2<=x.kind/\x.kind<=10)/\(eH tR x.e).2=true/\(eH tR x.f).2=true
 | 0,_,_,B,_,_,_,_,_,_=>by cases B
 | n+1,t,tR,B,h,u,x,a,b,ht=>by
  obtain⟨h1,h2,_⟩:=Ed h
  unfold ti at B
  split at B
  .exact TC n B bM u x a b ht
  .rename_i hs
   cases B
   have hb:(qI t).2=false:=by simpa using hs
   unfold qI at hb u ht
   cases hq:pf t.cD with
   | none=>rw[hq]at ht;dsimp only at ht;rw[hq]at ht;cases ht
   | some q=>
    obtain⟨y,c,d⟩:=q
    rw[hq]at hb u ht
    dsimp only at hb u ht
    have E:=(h.top hq).1.k
    split at hb
    .rename_i hv
     rw[ej hv]at u ht
     unfold qH at hb u ht
     split at hb
     .cases hb
     rename_i k1
     rw[ei k1]at u ht
     split at hb
     .cases hb
     rename_i k2
     rw[ei k2]at u ht
     split at hb
     .cases hb
     rename_i k3
     rw[ei k3]at u ht
     split at hb
     .cases hb
     rename_i k4
     rw[ei k4]at u ht
     split at hb
     .rename_i k5
      rw[ej k5]at u
      split at hb
      .rename_i k6;rw[ej k6]at u;cases u
      .cases hb
     .rename_i k5
      rw[ei k5]at ht
      rw[hq]at ht;cases ht
      have e:(qI t).1=t:=by unfold qI;rw[hq];dsimp only;rw[ej hv];unfold qH;rw[ei k1,ei k2,ei k3,ei k4,ei k5]
      rw[e]
      exact⟨bM,hv⟩
    .rename_i hv
     rw[ei hv]at u;cases u
section
variable {e:Int}
theorem aal(h:x.kind=1):qH t x a b e=({pg t x.eD e with cD:=gF t.cD},true):=by unfold qH;grind
theorem Kd(h:x.kind=11):qH t x a b e=({t with cD:=jn (if e=0 then b else a) false (gF t.cD)},true):=by unfold qH;simp[h]
theorem TD(h:x.kind=12):qH t x a b e=({t with cD:=mH x a t.cD},true):=by unfold qH;simp[h]
theorem TE(h:x.kind=13):qH t x a b e=({t with cD:=kr t.cD},true):=by unfold qH;simp[h]
theorem NB(h:x.kind=14)(u:e=0):qH t x a b e=({t with fault:=1},false):=by unfold qH;grind
theorem NC(h:x.kind=14)(u:¬ e=0):qH t x a b e=({t with cD:=gF t.cD},true):=by unfold qH;grind
theorem TF(h1:¬ x.kind=1)(h2:¬ x.kind=11)(h3:¬ x.kind=12)(h4:¬ x.kind=13)(h5:¬ x.kind=14):qH t x a b e=(t,false):=by grind[qH]
end
theorem aam(h:pf t.cD=none):qI t=(t,false):=by unfold qI;rw[h]
theorem aan(h:pf t.cD=some (x,a,b))(h2:(eH t x.e).2=false):qI t=({t with fault:=2},false):=by unfold qI;grind
theorem aao(h:pf t.cD=some (x,a,b))(h3:(eH t x.f).2=false):qI t=({t with fault:=2},false):=by unfold qI;grind
theorem aap(h:pf t.cD=some (x,a,b))(h2:(eH t x.e).2=true)(h3:(eH t x.f).2=true):qI t=qH t x a b (eH t x.e).1:=by unfold qI;grind
end
def QZ(E:Option Addr)(B u:Nat)(G:Bool):pr g6 (l1 143 [(0,.slice E B u),(1,.bool G)].toArray)=some (.agg [.slice E B u,.bool G].toArray):=by kernel_rfl
structure xH where
 l:SV
 Ke:Bool
instance:Flat xH where
 agg:=true
 sz:=2
 enc e:=[.slice e.l.a e.l.n e.l.cap,.bool e.Ke]
 val e:=.agg [.slice e.l.a e.l.n e.l.cap,.bool e.Ke].toArray
 pos:=dC
 len _:=rfl
 one a v h:=by simp at h;rcases h with rfl|rfl<;>rfl
 nV _ _:=rfl
 nW h:=by cases h
variable (w:World) (K:Value->g7)
def S137(I:Value):Prop:=
 aL 193 w λa b=>nC I λc=>fA 138 c 3 λd=>lA 136 d b λe=>lN 136 e λf=>bB .eql 3 f (i 0) λg=>cV g (eT g6 (l1 193 [].toArray) λh=>sA 193 a h b λj=>
 lA 193 a j λr=>K (.tuple #[r,(.slice none 0 0),(.slice none 0 0),ff]) j) (nC I λk=>fA 138 k 3 λl=>lA 136 l (drew b) λn=>nC I λo=>fA 138 o 3 λp=>lA 136 p (drew b) λq=>
 lN 136 q λs=>bB .sub 3 s (i 1) λt=>iA 136 n t λu=>fA 143 u 0 λv=>lA 141 v (drew b) λx=>iA 141 x (i 0) λy=>lA 193 y (drew b) λz=>aL 193 (drew b) λG ab=>
 sA 193 G z ab λB=>fA 193 G 6 λY=>lA 3 Y B λV=>bC .add 3 (i 1) V λE=>fA 193 G 7 λZ=>lA 3 Z B λW=>bA .add 3 E W λJ=>lA 193 G (drew B) λaj=>
 eT g6 (nT 141 x (some (i 1)) (some E) (some E)) λO=>eT g6 (nT 141 x (some E) (some J) (some J)) λal=>sA 193 a aj (drew B) λM=>
 lA 193 a M λU=>K (.tuple #[U,O,al,tt]) M)
def ayM:dJ:=λi=>match i with
 | 3=>.run 0 14
 | 7=>.run 0 14
 | _=>.nil
theorem ae5(u:Value)(h:S137 w K u):CR 137 [u] w K:=
 qm 50 ayM 60 [.cell 2 193,.tmp 3,.tmp 4,.tmp 5] Tryz.func137 h
def ayN:dJ:=λi=>match i with
 | 3=>.run 0 14
 | _=>.nil
def S197(B:Value):Prop:=
 kG (λG E a=>∀_:Env,
 eS (λK2=>eT g6 (Op.unary .not E) λb=>cV b (nC B λc=>fA 138 c 3 λd=>lA 136 d a λe=>lN 136 e λf=>bB .gtr 3 f (i 0) λg=>K2 g a) (K2 ff a))
 (λh j=>∀_:Env,
 cV h (nC B λk=>fA 138 k 3 λl=>lA 136 l j λn=>lN 136 n λo=>bB .sub 3 o (i 1) λp=>nC B λq=>fA 138 q 3 λr=>lA 136 r j λs=>iA 136 s p λt=>fA 143 t 1 λu=>
 lA 4 u j λv=>nC B λx=>fA 138 x 3 λy=>lA 136 y j λz=>eT g6 (nT 136 z none (some p) (some p)) λM=>nC B λO=>fA 138 O 3 λI=>sA 136 I M j λJ=>
 G v J) (K (.tuple #[]) j))) (λG=>G ff w)
theorem ae6(u:Value)(h:S197 w K u):CR 197 [u] w K:=
 qm 38 (λ_=>.nil) 0 [] Tryz.func197 h
def S161(u B:Value):Prop:=
 lN 82 B λa=>bB .eql 3 a (i 0) λb=>cV b (K (.tuple #[(i 0),tt]) w) (nC u λc=>fA 138 c 1 λd=>lA 91 d (drew w) λe=>nC u λf=>fA 138 f 2 λg=>lA 41 g (drew w) λh=>
 cF 143 [B,e,h] (drew w) λj k=>xT j 0 λl=>xT j 1 λn=>yS (λE=>bB .neq 31 n (i 0) λo=>cV o (nC u λp=>fA 138 p 4 λq=>sA 3 q (i 2) k λr=>E r) (
 E k)) (λs=>∀_:Env,
 bB .eql 31 n (i 0) λt=>K (.tuple #[l,t]) s))
def ayO:dJ:=λi=>match i with
 | 3=>.run 0 15
 | _=>.nil
theorem ae7(u B:Value)(h:S161 w K u B):CR 161 [u,B] w K:=
 qm 32 ayO 48 [.tmp 4,.tmp 5] Tryz.func161 h
def S117(B:Value):Prop:=
 R5 (λE a=>∀_:Env,
 cF 137 [B] a λb c=>xT b 0 λd=>xT b 1 λe=>xT b 2 λf=>xT b 3 λg=>aL 193 c λh j=>sA 193 h d j λk=>eT g6 (Op.unary .not g) λl=>cV l (K (.tuple #[]) k) (
 fA 193 h 3 λn=>lA 82 n k λo=>cF 161 [B,o] k λp q=>xT p 0 λr=>xT p 1 λs=>eT g6 (Op.unary .not s) λt=>cV t (K (.tuple #[]) q) (fA 193 h 4 λu=>lA 82 u q λv=>
 cF 161 [B,v] q λx y=>xT x 0 λ_=>xT x 1 λz=>eT g6 (Op.unary .not z) λaa=>cV aa (K (.tuple #[]) y) (fA 193 h 0 λab=>lA 3 ab y λI=>bB .eql 3 I (i 1) λad=>
 cV ad (nC B λY=>fA 138 Y 2 λM=>lA 41 M (drew y) λU=>nC B λah=>fA 138 ah 1 λai=>lA 91 ai (drew y) λaj=>fA 193 h 1 λW=>lA 9 W (drew y) λal=>
 cF 159 [aj,al] (drew y) λam O=>kA 41 M U O (iA 41 U am λao=>sA 3 ao r O λap=>cF 164 [B] ap λ_ aq=>E aq)) (bB .eql 3 I (i 11) λar=>cV ar (cF 164 [B] y λ_ G=>
 eS (λK2=>bB .eql 3 r (i 0) λau=>cV au (K2 f G) (K2 e G)) (λJ av=>∀_:Env,
 cF 116 [B,J,ff] av λ_ aw=>E aw)) (bB .eql 3 I (i 12) λV=>cV V (lA 193 h y λay=>cF 196 [B,ay,e] y λ_ Z=>E Z) (bB .eql 3 I (i 13) λa0=>cV a0 (cF 197 [B] y λ_ a1=>
 E a1) (bB .eql 3 I (i 14) λa2=>cV a2 (bB .eql 3 r (i 0) λa3=>cV a3 (nC B λa4=>fA 138 a4 4 λa5=>sA 3 a5 (i 1) y λa6=>K (.tuple #[]) a6) (cF 164 [B] y λ_ a7=>
 E a7)) (K (.tuple #[]) y))))))))) (λE=>E w)
def ayP:dJ:=λi=>match i with
 | 8=>(.of [(0,[]),(1,[]),(2,[]),(3,[]),(4,[]),(5,[]),(6,[]),(7,[]),(8,[]),(9,[]),(11,[]),(10,[3]),(12,[]),(13,[])])
 | _=>.nil
theorem ae8(u:Value)(h:S117 w K u):CR 117 [u] w K:=
 qm 83 ayP 0 [] Tryz.func117 h
theorem ND:PL 116:=dL Tryz.func116
theorem aar:PL 137:=dL Tryz.func137
theorem NF:PL 164:=dL Tryz.func164
theorem arV:PL 196:=dL Tryz.func196
theorem arW:PL 197:=dL Tryz.func197
theorem NG:PL 161:=dL Tryz.func161
theorem ahP:PL 117:=dL Tryz.func117
theorem ahQ:PL 141:=dL Tryz.func141
end Go.Proofs.YtpdlpabnlkofmaaGreatDoor
namespace Go.Fw
section
variable {P:Program}{w w0:World}{A S:Nat->Prop}{L:List HP}
theorem z6{n cap l h m:Nat}{lo hi B:Option Value}(I:lo=none/\l=0\/∃i:Int,lo=some (hH i)/\0<=i/\l=i.toNat)(J:∃i:Int,hi=some (hH i)/\0<=i/\h=i.toNat)(G:∃i:Int,B=some (hH i)/\0<=i/\m=i.toNat)
  (h1:l<=h) (h2:h<=m) (h3:m<=cap):pr P (vC true n cap lo hi B)=some (l,h,m):=by
 obtain⟨j,rfl,u,rfl⟩:=J
 obtain⟨k,rfl,E,rfl⟩:=G
 rcases I with⟨rfl,rfl⟩|⟨i,rfl,M,rfl⟩<;>simp only[vC,cT,fP,ma]
 .rw[ji E bM];simp only[ma];rw[ji u bM];rfl
 rw[ji E bM];simp only[ma];rw[ji u bM];simp only[ma];rw[ji M bM];rfl
theorem Kf{T E sz I:Nat}{z:Option Nat}{a:Option Addr}{n cap l h m:Nat}{lo hi u:Option Value}(ht:eM P T=some (E,sz,I,z))
  (hb:pr P (vC true n cap lo hi u)=some (l,h,m)) :
  pr P (nT T (.slice a n cap) lo hi u)=some (.slice (if m=l then a else a.map (·.add (l*sz))) (h-l) (m-l)):=by
 obtain⟨B,G,J,M,_⟩:=fp ht
 unfold nT
 rw[cT,cS B]
 simp only[ma]
 unfold Instr.slice
 rw[cT,cS B]
 simp only[ma]
 rw[cT,hb]
 simp only[ma]
 rw[cT,mR J,M]
 rfl
variable {α:Type}[Flat α] {xs:List α}
theorem cZ.arX{v:Value}{a:Option Addr}{n cap l h:Nat}(I:v=.slice a n cap)(O:cZ S w v xs)(h1:l<=h)(h2:h<=xs.length) :
  cZ S w (.slice (if h=l then a else a.map (·.add (l*l2 α))) (h-l) (h-l)) ((xs.take h).drop l):=by
 obtain⟨Y,W,M,Z,h3⟩:=O
 rw[M]at I
 simp only[yA.injEq]at I
 obtain⟨rfl,V,rfl⟩:=I
 have hlen:((xs.take h).drop l).length=h-l:=by simp;omega
 rcases h3 with⟨G,U⟩|⟨b,o,rfl,h4,h5⟩
 .subst G
  exact⟨_,h-l,by rw[hlen],ee,.inl ⟨ee,by simp at h2;omega⟩⟩
 refine⟨_,h-l,by rw[hlen],by rw[hlen];exact o1 _,.inr ?_⟩
 have J:(xs.take h).drop l≠[]->xs≠[]:=λE B=>E (by rw[B];simp)
 by_cases E:h=l
 .rw[ej E]
  refine⟨b,o,rfl,λB=>h4 (J B),λj c u=>?_⟩
  have:((xs.take h).drop l)=[]:=by rw[<- ta,hlen];omega
  rw[this]at u;simp[kH]at u
 rw[ei E]
 refine⟨b,o+l*l2 α,by simp[gK],λB=>h4 (J B),λj c u=>?_⟩
 rw[Hw,Hv,IT,Jd]at u
 split at u
 .have:=h5 _ c u
  rwa [show o+(l*l2 α+j)=o+l*l2 α+j from bM]at this
 cases u
theorem NH{T E G:Nat}{z:Option Nat}{v:Value}{i j:Int}{K:Value->Prop}(ht:eM P T=some (E,l2 α,G,z))(I:cZ S w v xs)
  (J:0<=i) (h1:i<=j) (h2:j<=xs.length) (k:∀u,(∀w' (ys:List α),cZ S w' v ys->cZ S w' u ((ys.take j.toNat).drop i.toNat))->K u):eT P (nT T v (some (hH i)) (some (hH j)) (some (hH j))) K:=by
 obtain⟨a,cap,rfl,M,h3⟩:=I
 refine⟨_,Kf ht (z6 (.inr ⟨i,rfl,J,rfl⟩) ⟨j,rfl,bM,rfl⟩ ⟨j,rfl,bM,rfl⟩ bM (o1 _) bM),k _ λw' ys B=>B.arX rfl bM ?_⟩
 obtain⟨_,_,h4,_⟩:=B
 grind
theorem Gb{T E G:Nat}{z:Option Nat}{v:Value}{i:Int}{K:Value->Prop}(ht:eM P T=some (E,l2 α,G,z))(I:cZ S w v xs)
  (J:0<=i) (h2:i<=xs.length) (k:∀u,(∀w' (ys:List α),cZ S w' v ys->cZ S w' u (ys.drop i.toNat))->K u):eT P (nT T v (some (hH i)) none none) K:=by
 obtain⟨a,cap,rfl,O,h3⟩:=I
 refine⟨_,wH ht (ou (.inr ⟨i,rfl,J,rfl⟩) (.inl ⟨rfl,rfl⟩) bM bM),k _ λw' ys B=>?_⟩
 have M:ys.length=xs.length:=by
  obtain⟨_,_,h4,_⟩:=B
  grind
 have:=B.cut rfl (show i.toNat<=ys.length by omega) (o1 _)
 grind
theorem Dg{T E Y:Nat}{z:Option Nat}{v:Value}{i:Int}{K:Value->Prop}(ht:eM P T=some (E,l2 α,Y,z))
  (I:St w0 A (bH v xs::L) w) (O:0<=i) (h1:i<=xs.length) (k:∀M,St w0 A (bH M (xs.take i.toNat)::L) w->K M):eT P (nT T v none (some (hH i)) (some (hH i))) K:=by
 obtain⟨a,cap,u,AF,_⟩:=I.dS
 refine⟨_,(by rw[u];exact Kf ht (z6 (.inl ⟨rfl,rfl⟩) ⟨i,rfl,O,rfl⟩ ⟨i,rfl,O,rfl⟩ (la _) (o1 _) bM)),k _ ?_⟩
 refine I.rp λF G=>?_
 rcases G with⟨B,V,W⟩|⟨b,Du,rest,U,hb,Z,G⟩
 .rw[B]at u
  subst V
  simp only[yA.injEq]at u
  obtain⟨rfl,_,rfl⟩:=u
  have hi:i.toNat=0:=by simp at h1;omega
  refine⟨F,.inl ⟨?_,ee,W⟩,λb hb=>.inl hb,gz.refl _ _⟩
  rw[hi];rfl
 rw[U]at u
 simp only[yA.injEq]at u
 obtain⟨rfl,_,rfl⟩:=u
 have J:(xs.take i.toNat).length=i.toNat:=by rw[lY];omega
 refine⟨F,.inr ⟨b,i.toNat,flat (xs.drop i.toNat)++rest,?_,?_,⟨bM,?_⟩,G⟩,λb hb=>.inl hb,gz.refl _ _⟩
 .rw[J]
  simp[gK]
 .rw[<- nk,<- gL,List.take_append_drop];exact hb
 rw[kU,dA,J];omega
end
end Go.Fw
namespace Go.Proofs.YtpdlpabnlkofmaaGreatDoor
open Go.Fw
def rh(K:g7)(sv:SV)(rows:List bE)(l:List bP)(w:World):Prop:=(∀w',K w'->fR rows l w')/\(K w->cZ (λ_=>True) w (hM sv) rows)
abbrev PE:=List (xH×List bE)
def Ee(K:g7)(w:World):PE->PD->Prop
 | [],[]=>True
 | e::es,q::p=>(e.1.Ke=q.2/\rh K e.1.l e.2 q.1.flat w)/\Ee K w es p
 | _,_=>False
def O2(es:PE):List xH:=(es.map Prod.fst).reverse
theorem aas(e:xH×List bE)(es:PE):O2 (e::es)=O2 es++[e.1]:=by simp[O2]
theorem rC(es:PE):(O2 es).length=es.length:=by simp[O2]
theorem Ee.len{K:g7}{w:World}:∀{es:PE}{p:PD},Ee K w es p->es.length=p.length
 | [],[],_=>rfl
 | e::es,q::p,h=>by have:=Ee.len h.2;simp[this]
 | [],_::_,h=>h.elim
 | _::_,[],h=>h.elim
def eQ(K Φ:g7)(p:Nat)(room:Int)(t:jS):HP:=pK λu:Nat=>pK λB:SV=>pK λrg=>pK λpl=>pK λes:PE=>fact (∀w,K w->cZ (λ_=>True) w (hM B) t.names)
 (sep (bY p [.pointer (some ⟨u,0,none⟩),hM B,rg,pl,hH t.fault]) (sep (jg u room t.buf) (sep (bH rg t.dQ) (sep (bH pl (O2 es)) (eA λw=>Ee K w es t.cD/\Φ w)))))
abbrev rD(K:g7)(p:Nat)(room:Int)(t:jS):HP:=eQ K (λ_=>True) p room t
section
variable {w w0:World}{A:Nat->Prop}{R:List HP}{p:Nat}{K Φ Ψ:g7}{room:Int}{t:jS}
theorem sO{H1 H2 B u E:HP}(G:St w0 A (sep H1 (sep H2 (sep B (sep u E)))::R) w):St w0 A (H1::H2::B::u::E::R) w:=by
 have h1:=G.split
 have h2:=h1.p1.split
 have h3:=h2.p1.split
 have h4:=h3.p1.split
 exact h4.p2.p3.p4
theorem sP{H1 H2 B u E:HP}(G:St w0 A (H1::H2::B::u::E::R) w):St w0 A (sep H1 (sep H2 (sep B (sep u E)))::R) w:=by
 have h4:=St.join G.p4.p4
 have h3:=St.join h4.p3
 have h2:=St.join h3.p2
 exact St.join h2.p1
abbrev BA(u:Nat)(B:SV)(rg pl:Value)(f:Int):List Value:=[.pointer (some ⟨u,0,none⟩),hM B,rg,pl,.int .i64 f]
theorem eQ.open(u:St w0 A (eQ K Φ p room t::R) w):∃B E rg pl es,(∀w,K w->cZ (λ_=>True) w (hM E) t.names)/\
  St w0 A (bY p (BA B E rg pl t.fault)::jg B room t.buf::bH rg t.dQ::bH pl (O2 es)::eA (λw=>Ee K w es t.cD/\Φ w)::R) w:=by
 obtain⟨B,u⟩:=u.eg;obtain⟨E,u⟩:=u.eg;obtain⟨rg,u⟩:=u.eg;obtain⟨pl,u⟩:=u.eg;obtain⟨es,u⟩:=u.eg;obtain⟨G,u⟩:=u.mq
 exact⟨B,E,rg,pl,es,G,sO u⟩
theorem eQ.shut{u:Nat}{B:SV}{rg pl:Value}{es:PE}(G:∀w,K w->cZ (λ_=>True) w (hM B) t.names)
  (E:St w0 A (bY p (BA u B rg pl t.fault)::jg u room t.buf::bH rg t.dQ::bH pl (O2 es)::eA (λw=>Ee K w es t.cD/\Φ w)::R) w):St w0 A (eQ K Φ p room t::R) w:=
 St.eh u (St.eh B (St.eh rg (St.eh pl (St.eh es (St.oz G (sP E))))))
theorem eQ.mono(u:St w0 A (eQ K Φ p room t::R) w)(h:∀w,Φ w->Ψ w):St w0 A (eQ K Ψ p room t::R) w:=by
 obtain⟨G,I,rg,pl,es,E,u⟩:=eQ.open u
 have h1:=u.p4.dF (Ψ:=λw=>Ee K w es t.cD/\Ψ w) λw B=>⟨B.1,h w B.2⟩
 exact eQ.shut E h1.p4.p4.p4.p4
theorem eQ.now(u:St w0 A (eQ K Φ p room t::R) w):Φ w:=by
 obtain⟨B,E,rg,pl,es,G,u⟩:=eQ.open u
 exact u.p4.eA.2
theorem eQ.rd(h:Has (eQ K Φ p room t) w):∃B E rg pl es,(∀w,K w->cZ (λ_=>True) w (hM E) t.names)/\qd w p (BA B E rg pl t.fault)/\ue w B room t.buf/\cZ (λ_=>True) w rg t.dQ/\cZ (λ_=>True) w pl (O2 es)/\Ee K w es t.cD/\Φ w:=by
 obtain⟨F,u⟩:=h.st
 obtain⟨B,E,rg,pl,es,G,u⟩:=eQ.open u
 exact⟨B,E,rg,pl,es,G,u.hb,Ea u.p1,u.p2.dS,u.p3.dS,u.p4.eA.1,u.p4.eA.2⟩
theorem jb{E:bE}{x:bP}(h:mv w E x):∃u B:SV,E=⟨x.kind,x.eD,x.name,u,B,x.n,x.body,x.et,x.at_⟩/\cZ (λ_=>True) w (hM u) x.e/\cZ (λ_=>True) w (hM B) x.f:=by
 obtain⟨u,B,h1,h2,h3⟩:=h
 exact⟨u,B,h1,DL.flat h2,DL.flat h3⟩
theorem fR.cut{rows:List bE}{l:List bP}{i j:Nat}(h:fR rows l w):fR ((rows.take j).drop i) ((l.take j).drop i) w:=(h.take j).drop i
theorem aqM{x:bP}{a b r:Bk}(h:(Bk.cons x a b r).str){j:Int}(u:j=1+x.body):(((Bk.cons x a b r).flat.take j.toNat).drop (1:Int).toNat)=a.flat:=by
 obtain⟨B,_⟩:=h
 have E:=a.cY
 rw[vv _ (a:=1) (c:=(1:Int).toNat) (n:=a.flat.length) bM rfl]
 show(a.flat++(b.flat++r.flat)).take _=_
 grind
theorem aqN{x:bP}{a b r:Bk}(h:(Bk.cons x a b r).str){i j:Int}(hi:i=1+x.body)(B:j=1+x.body+x.et):(((Bk.cons x a b r).flat.take j.toNat).drop i.toNat)=b.flat:=by
 obtain⟨E,u,_⟩:=h
 have G:=a.cY
 have lb:=b.cY
 rw[vv _ (a:=1+a.flat.length) (n:=b.flat.length) bM bM,<- List.drop_drop]
 show((a.flat++(b.flat++r.flat)).drop _).take _=_
 grind
theorem rh.cut{sv u:SV}{rows:List bE}{l:List bP}{i j:Nat}(h:rh K sv rows l w)(hc:∀w' (ys:List bE),cZ (λ_=>True) w' (hM sv) ys->cZ (λ_=>True) w' (hM u) ((ys.take j).drop i)):rh K u ((rows.take j).drop i) ((l.take j).drop i) w:=
 ⟨λw' B=>fR.cut (h.1 w' B),λB=>hc _ _ (h.2 B)⟩
theorem rh.XZ{sv u:SV}{rows:List bE}{l:List bP}{i:Nat}(h:rh K sv rows l w)(hc:∀w' (ys:List bE),cZ (λ_=>True) w' (hM sv) ys->cZ (λ_=>True) w' (hM u) (ys.drop i)):rh K u (rows.drop i) (l.drop i) w:=
 ⟨λw' B=>(h.1 w' B).drop i,λB=>hc _ _ (h.2 B)⟩
theorem Ee.top{es:PE}{q:Bk×Bool}{p:PD}(h:Ee K w es (q::p)):∃sv rows u,es=(⟨sv,q.2⟩,rows)::u/\rh K sv rows q.1.flat w/\Ee K w u p:=by
 match es,h with
 | [],h=>exact h.elim
 | e::es,h=>
  obtain⟨⟨sv,B⟩,rows⟩:=e
  obtain⟨⟨h1,h2⟩,h3⟩:=h
  grind
theorem Ee.cons{sv:SV}{e:Bool}{rows:List bE}{es:PE}{q:Bk×Bool}{p:PD}(h:Ee K w ((⟨sv,e⟩,rows)::es) (q::p)):rh K sv rows q.1.flat w/\Ee K w es p:=⟨h.1.2,h.2⟩
theorem Gc{e:xH×List bE}{es:PE}:(O2 (e::es))[es.length]?=some e.1:=by grind[O2]
theorem TG{e:xH×List bE}{es:PE}:(O2 (e::es)).take es.length=O2 es:=by grind[O2]
end
theorem C116(K Φ:g7)(p:Nat)(room:Int)(t:jS)(F:Nat->Prop)(lv:SV)(rows:List bE)(b:Bk)(e:Bool)(w:World)(V:(eQ K Φ p room t).p w F)(E:∀w',gz F w w'->K w')(G:∀w,Φ w->rh K lv rows b.flat w)(nU:t.cD.length<=100000) :
    CR 116 [.pointer (some ⟨p,0,none⟩),hM lv,.bool e] w (λv w'=>v=.tuple #[]/\mP F (eQ K Φ p room {t with cD:=jn b e t.cD}) w w'):=by
 have u:=St.begin V;refine eZ Tryz.func116 ?_;obtain⟨J,I⟩:=G _ (eQ.now u);have hlen:=(J _ (E _ u.aF)).1;refine aH fq (I (E _ u.aF)) (cP (aC (λc=>?_) λc=>?_));rotate_left
 .have hb:b=.nil:=by
   cases b with
   | nil=>rfl
   | cons y a B r=>simp[Bk.flat]at hlen;omega
  subst hb;exact⟨rfl,u.mut⟩
 obtain⟨y,a,B,r,rfl⟩:=Bk.D5 (t:=b) bM;obtain⟨bp,Z,rg,pl,es,O,u⟩:=eQ.open u;have Y:=u.p4.eA.1.len;refine aE (aA jI (aB rW u.hb rfl (pop (QZ lv.a lv.n lv.cap e) (bD ([(⟨lv,e⟩:xH)]) u uD rfl rfl (dR rfl) λM _ u=>?_))));have W:=u.dS;refine bL u.p4 uD W (by rw[rC];simp;omega) dC (λU _ u=>have u:=u.p1.drop;aE (aA jI (aW u.p1 rW (dR rfl) u.dS.one λ_ u=>?_)));have u:=u.p4.dF (Ψ:=λw=>Ee K w ((⟨lv,e⟩,rows)::es) ((.cons y a B r,e)::t.cD)/\Φ w) (λw h=>⟨⟨⟨rfl,G w h.2⟩,h.1⟩,h.2⟩)
 have u:=u.p2;rw[<- aas (⟨lv,e⟩,rows) es]at u;have u:=eQ.shut (Φ:=Φ) (t:={t with cD:=(.cons y a B r,e)::t.cD}) O u.p1.p1.p4.p4.p4;exact⟨rfl,u.mut⟩
def C164(K Φ:g7)(p:Nat)(room:Int)(t:jS)(F:Nat->Prop)(y:bP)(a b r:Bk)(e:Bool)(E:PD)(w:World)(hF:(eQ K Φ p room t).p w F)(W:∀w',gz F w w'->K w')(U:t.cD=(.cons y a b r,e)::E)(iY:(Bk.cons y a b r).str)(nU:t.cD.length<=100000) :
   CR 164 [.pointer (some ⟨p,0,none⟩)] w (λv w'=>v=.tuple #[]/\mP F (eQ K Φ p room {t with cD:=gF t.cD}) w w'):=by
 have Y:gF t.cD=jn r false E:=by rw[U];rfl
 have V:E.length<=100000:=cJ
 have u:=St.begin hF;refine py Tryz.func164 (pl:=ayN) ?_;obtain⟨bp,nv,rg,pl,es,hk,u⟩:=eQ.open u;have B:=u.p4.eA.1;rw[U]at B;obtain⟨sv,rows,O,rfl,⟨Bv,GJ⟩,_⟩:=B.top;have L6:=B.len;rw[ob,ob]at L6;have QJ:=Bv _ (W _ u.aF);have G9:=QJ.1;have tW:=(Bk.cons y a b r).cY
 change rows.length=(Bk.cons y a b r).flat.length at G9
 obtain⟨KU,hb2,hb3,hb4,_⟩:=id iY;simp only[Bk.len]at tW;obtain⟨t0,Vs⟩:∃t0,rows[(0:Int).toNat]?=some t0:=⟨_,kO (by simp;omega)⟩;obtain⟨ge,gf,rfl,_,_⟩:=jb (QJ.2 0 _ y Vs rfl);refine aE (aA jI (aB rW u.hb rfl (aH uD u.p3.dS ?_)));rw[rC,ob];refine fr bM ?_;rw[show((O.length+1:Nat):Int)-1=(O.length:Int)from bM];refine aE (aA jI (aB rW u.hb rfl (aN uD u.p3.dS bM (by rw[qb];exact Gc) λq hq=>bU sv LU hq rfl rfl λq2 QP=>aD jJ QP (aE (aA jI (aB rW u.hb rfl (have u:=u.p3;Dg uD u bM (by rw[rC,ob];omega) λs25 u=>?_)))))))
 rw[qb,TG]at u;refine aE (aA jI (aW u.p1 rW (dR rfl) u.dS.one λ_ u=>?_));have u:=u.drew.p4;rw[U]at u;have u:=u.dF (Ψ:=λw=>Ee K w O E/\(Φ w/\rh K sv rows (Bk.cons y a b r).flat w)) (λ_ h=>⟨h.1.2,h.2,h.1.1.2⟩);have I:=u.eA.2.2.2 (W _ u.aF);have u:=eQ.shut (Φ:=λw=>Φ w/\rh K sv rows (Bk.cons y a b r).flat w) (t:={t with cD:=E}) hk u.p2.p4.p4.p4;refine aN fq I bM Vs (λq3 Z=>bU y.body iU Z rfl rfl λq4 M=>aD bO M (aK bM (aN fq I bM Vs λq5 J=>bU y.et iH J rfl rfl λq6 hq6=>aD bO hq6 (aK bM (Gb fq I bM bM λs40 G=>?_)))))
 obtain⟨ayT,rfl⟩:=(G _ _ I).fV;refine bF ND u (H':=λ_=>eQ K (λw=>Φ w/\rh K sv rows (Bk.cons y a b r).flat w) p room {t with cD:=jn r false E}) (Φ:=λ_ _=>True) (λF2 ef dV=>?_) ?_
 .refine(C116 K _ p room {t with cD:=E} F2 ayT (rows.drop (1+y.body+y.et).toNat) r false _ ef (λw' hc=>W w' (dV w' hc).aF) (λw h=>?_) V).mono λ_ _ r=>r.mono λ_ _ h=>⟨trivial,h.2⟩;have:=h.2.XZ G;rw[Bk.ajs iY rfl]at this;exact this
 rintro _ _ _ u;rw[<- Y]at u;exact⟨rfl,(eQ.mono u λ_ h=>h.1).mut⟩
theorem C137(K:g7)(p:Nat)(t:jS)(bp:Nat)(nv:SV)(rg pl:Value)(es:PE)(φ:bP->Prop)(w:World)(uX:qd w p (BA bp nv rg pl t.fault))(Z:cZ (λ_=>True) w pl (O2 es))(Kg:Ee K w es t.cD)
   (hw:∀w',Ext w w'->K w') (B:GM φ t.cD) (hl:t.cD.length<=100000):CR 137 [.pointer (some ⟨p,0,none⟩)] w (λv w'=>Ext w w'/\((pf t.cD=none/\v=.tuple #[hM (⟨0,⟨#[]⟩,⟨#[]⟩,bW,bW,0,0,0,0⟩:bE),.slice none 0 0,.slice none 0 0,.bool false])\/
    ∃x a b xv av bv ra rb,pf t.cD=some (x,a,b)/\v=.tuple #[hM (xv:bE),hM (av:SV),hM (bv:SV),.bool true]/\(∀w',K w'->mv w' xv x)/\∀M,Ee K M es t.cD->rh K av ra a.flat M/\rh K bv rb b.flat M)):=by
 have U:=uX.cell (o:=3) rfl;have J:=Kg.len;have u:=St.start w;refine ae5 _ _ _ ?_;unfold S137;refine aR u jq (λb2 _ u=>have u:=u.enc (cs':=hZ (⟨0,⟨#[]⟩,⟨#[]⟩,bW,bW,0,0,0,0⟩:bE)) rfl;aE (aA jI (bX rW (U.ext u.aF) (aH uD (Z.ext u.aF) ?_))));rw[rC];refine aG (aC (λc=>?_) λc=>?_)
 .have O0:t.cD=[]:=ta.1 bM;exact pop (v:=hM (⟨0,⟨#[]⟩,⟨#[]⟩,bW,bW,0,0,0,0⟩:bE)) (by kernel_rfl) (aJ (x:=(⟨0,⟨#[]⟩,⟨#[]⟩,bW,bW,0,0,0,0⟩:bE)) u eK rfl rfl λ_ u=>aD eK u.At ⟨u.drop.aF,.inl ⟨by rw[O0];rfl,rfl⟩⟩)
 obtain⟨cD,ar1⟩:∃q,q=t.cD:=⟨_,rfl⟩;rw[<- ar1]at Kg B J hl |-;cases cD with
 | nil=>exact absurd (show((es.length:Nat):Int)=0 by have h0:es.length=0:=J;omega) c
 | cons q p'=>
 obtain⟨q1,e⟩:=q;cases q1 with
 | nil=>exact absurd rfl (B.ne _ (oi ..))
 | cons y a b r=>
 have W:=B.st _ (oi ..);obtain⟨sv,rows,Vr,rfl,⟨Bv,GJ⟩,_⟩:=Kg.top;have QJ:=Bv _ (hw _ (Ext.refl _));have G9:=QJ.1;have tW:=(Bk.cons y a b r).cY
 change rows.length=(Bk.cons y a b r).flat.length at G9
 obtain⟨KU,hb2,hb3,hb4,_⟩:=id W;simp only[Bk.len]at tW;rw[ob]at J c;rw[ob]at J hl;obtain⟨t0,Y⟩:∃t0,rows[(0:Int).toNat]?=some t0:=⟨_,kO (by simp;omega)⟩;obtain⟨ge,gf,rfl,_,_⟩:=jb (QJ.2 0 _ y Y rfl);have I:=GJ (hw _ (Ext.refl _));have u:=u.drew;refine aE (aA jI (bX rW (U.ext u.aF) (aE (aA jI (bX rW (U.ext u.aF) (aH uD (Z.ext u.aF) ?_))))));rw[rC,ob];refine fr bM ?_;rw[show((Vr.length+1:Nat):Int)-1=(Vr.length:Int)from bM];refine aN uD (Z.ext u.aF) bM (by rw[qb];exact Gc) (λq hq=>bU sv LU hq rfl rfl λq2 QP=>aD jJ QP (aN fq (I.ext u.aF) bM Y λq3 V=>aD eK V (aR u jq λb7 _ u=>aJ (x:=(⟨y.kind,y.eD,y.name,ge,gf,y.n,y.body,y.et,y.at_⟩:bE)) u eK rfl rfl λ_ u=>aA iU (aB (v:=hH y.body) bO u.hb rfl (aK bM (aA iH (aB (v:=hH y.et) bO u.hb rfl (aK bM ?_))))))))
 have u:=u.drew;refine aD eK u.At (NH fq (I.ext u.aF) bM bM bM λs44 G=>?_);obtain⟨ayU,rfl⟩:=(G _ _ I).fV;refine NH fq (I.ext u.aF) bM bM bM (λs49 E=>?_);obtain⟨O,rfl⟩:=(E _ _ I).fV;refine aJ (x:=(⟨y.kind,y.eD,y.name,ge,gf,y.n,y.body,y.et,y.at_⟩:bE)) u.p1 eK rfl rfl (λ_ u=>aD eK u.At ?_);refine⟨u.drop.drop.aF,.inr ⟨y,a,b,_,ayU,O,(rows.take (1+y.body).toNat).drop (1:Int).toNat,(rows.take (1+y.body+y.et).toNat).drop (1+y.body).toNat,rfl,rfl,λw' hk=>(Bv w' hk).2 0 _ y Y rfl,λM h2=>?_⟩⟩;have h3:=h2.cons.1
 refine⟨?_,?_⟩
 .have:=h3.cut G;rw[aqM W rfl]at this;exact this
 have:=h3.cut E;rw[aqN W rfl rfl]at this;exact this
theorem C197(K Φ:g7)(p:Nat)(room:Int)(t:jS)(F:Nat->Prop)(w:World)(hF:(eQ K Φ p room t).p w F)(hK:∀w',gz F w w'->K w')(nU:t.cD.length<=100000) :
   CR 197 [.pointer (some ⟨p,0,none⟩)] w (λv w'=>v=.tuple #[]/\mP F (eQ K Φ p room {t with cD:=kr t.cD}) w w'):=by
 have u:=St.begin hF;refine ae6 _ _ _ ?_;unfold S197;refine⟨λm ev O=>∃(E:Bool) (B:PD),ev=.bool E/\m=B.length+(if E then 0 else 1)/\B.length<=100000/\kr t.cD=(if E=true then B else kr B)/\St w F [eQ K Φ p room {t with cD:=B}] O,⟨_,false,t.cD,rfl,rfl,nU,rfl,u⟩,?_⟩;rintro m _ O ⟨E,B,rfl,rfl,WI,G,u⟩ _;obtain⟨bp,nv,rg,pl,es,V,u⟩:=eQ.open u;have I:=u.p4.eA.1;have U:=I.len
 change es.length=B.length at U
 refine⟨λY w'=>Y=.bool (!E&&decide (0<B.length))/\w'=O,?_,?_⟩
 .refine bQ ?_;cases E with
  | true=>exact ft ⟨rfl,rfl⟩
  | false=>
   refine gU (aE (aA jI (aB rW u.hb rfl (aH uD u.p3.dS ?_))));rw[rC];refine cP ?_;exact⟨vb (by rw[OZ,Bt];exact e8.2 bM),rfl⟩
 rintro _ _ ⟨rfl,rfl⟩ _;refine aY (λc=>?_) (λc=>?_);rotate_left
 .have hd:kr t.cD=B:=by
   rw[G];cases E with
   | true=>rfl
   | false=>
    have:B=[]:=ta.1 (by have:=gS (by simpa only[OZ,Bt]using c);omega);rw[this];rfl
  rw[hd];exact⟨rfl,(eQ.shut (t:={t with cD:=B}) V u).mut⟩
 rw[Bool.and_eq_true,Bool.not_eq_true',decide_eq_true_eq]at c;obtain⟨rfl,AG⟩:=c;cases B with
 | nil=>simp at AG
 | cons q J=>
 obtain⟨q1,e⟩:=q;obtain⟨sv,rows,M,rfl,_,_⟩:=I.top;rw[ob,ob]at U;rw[ob]at WI;refine aE (aA jI (aB rW u.hb rfl (aH uD u.p3.dS ?_)));rw[rC,ob];refine fr bM ?_;rw[show((M.length+1:Nat):Int)-1=(M.length:Int)from bM];refine aE (aA jI (aB rW u.hb rfl (aN uD u.p3.dS bM (by rw[qb];exact Gc) λq W=>bU e XB W rfl rfl λq2 QP=>aD G0 QP (aE (aA jI (aB rW u.hb rfl (have u:=u.p3;Dg uD u bM (by rw[rC,ob];omega) λZ u=>?_)))))))
 rw[qb,TG]at u;refine aE (aA jI (aW u.p1 rW (dR rfl) u.dS.one λ_ u=>have u:=u.p4.dF (Ψ:=λw=>Ee K w M J/\Φ w) (λ_ h=>⟨h.1.2,h.2⟩);have u:=eQ.shut (Φ:=Φ) (t:={t with cD:=J}) V u.p2.p4.p4.p4;⟨_,?_,e,J,rfl,rfl,bM,?_,u⟩))
 .show J.length+(if e=true then 0 else 1)<J.length+1+1
  split<;>omega
 rw[G];rfl
def C161(K Φ:g7)(p:Nat)(room:Int)(t:jS)(F:Nat->Prop)(lv:Value)(xs:List bZ)(w:World)(U:(eQ K Φ p room t).p w F)(M:∀w',gz F w w'->K w')(I:cZ (λ_=>True) w lv xs)(O:xs.length<=1048576)(J:t.names.length<=1048576) :
   CR 161 [.pointer (some ⟨p,0,none⟩),lv] w (λv w'=>v=.tuple #[hH (eH t xs).1,.bool (eH t xs).2]/\mP F (eQ K Φ p room {t with fault:=if (eH t xs).2=true then t.fault else 2}) w w'):=by
 have u:=St.begin U;refine ae7 _ _ _ _ ?_;unfold S161;refine aH g9 I (aG (aC (λc=>?_) λc=>?_))
 .have B:eH t xs=(0,true):=by unfold eH;rw[ej bM]
  rw[B];exact⟨rfl,u.mut⟩
 have B:eH t xs=((qO t.names t.dQ xs).1,decide ((qO t.names t.dQ xs).2=0)):=by unfold eH;rw[ei bM]
 obtain⟨Y,W,rg,pl,es,E,u⟩:=eQ.open u;have u:=u.drew;refine aE (aA AN (aB je u.hb rfl (aE (aA AO (aB eO u.hb rfl (aV ahd u (C143 _ _ _ xs t.names t.dQ _ (I.ext (Ext.drew w)) (E _ (M _ u.aF)) u.p2.dS O J) λ_ V u=>aO rfl (aO rfl ⟨λw'=>St w F [eQ K Φ p room {t with fault:=if (eH t xs).2=true then t.fault else 2}] w',bV (aC (λG=>?_) λG=>?_),?_⟩)))))))
 .refine aE (aA wR (aW u bO (dR rfl) rfl λ_ u=>?_));have ht:{t with fault:=2}={t with fault:=if (eH t xs).2=true then t.fault else 2}:=by rw[B];dsimp only;rw[ez G];rfl
  rw[<- ht];exact eQ.shut (t:={t with fault:=2}) E u
 .have ht:t={t with fault:=if (eH t xs).2=true then t.fault else 2}:=by rw[B];dsimp only;rw[ew bM];rfl
  rw[<- ht];exact eQ.shut E u
 intro _ u _;exact aG ⟨by rw[B],u.mut⟩
def eQ.aks{w w0:World}{A:Nat->Prop}{R:List HP}{p:Nat}{K Φ Ψ:g7}{room:Int}{t:jS}(u:St w0 A (eA Ψ::eQ K Φ p room t::R) w):St w0 A (eQ K (λw=>Φ w/\Ψ w) p room t::R) w:=by
 obtain⟨E,G,rg,pl,es,B,u⟩:=eQ.open u.p1
 have h1:=u.p5.p5.gd.dF (Ψ:=λw=>Ee K w es t.cD/\Φ w/\Ψ w) λw h=>⟨h.1.1,h.1.2,h.2⟩
 exact eQ.shut B h1.p4.p4.p4.p4
theorem fR.cons{w:World}{t:bE}{x:bP}{ts:List bE}{xs:List bP}(h:mv w t x)(u:fR ts xs w):fR (t::ts) (x::xs) w:=by
 refine⟨by simp[u.1],λi t' B h1 h2=>?_⟩
 cases i with
 | zero=>simp at h1 h2;subst h1 h2;exact h
 | succ i=>exact u.2 i t' B (by simpa using h1) (by simpa using h2)
theorem Q0(x:bP)(a:Bk):(Bk.cons x a .nil .nil).flat=x::a.flat:=by simp[Bk.flat]
theorem C196(K Φ:g7)(p:Nat)(room:Int)(t:jS)(F:Nat->Prop)(x:bP)(xv:bE)(av:SV)(U:List bE)(a b r:Bk)(e:Bool)(O:PD)(w:World)(hF:(eQ K Φ p room t).p w F)(I:∀w',gz F w w'->K w')(Z:t.cD=(.cons x a b r,e)::O)(iY:(Bk.cons x a b r).str)(nU:t.cD.length<=90000)
   (Ap:∀w,K w->mv w xv x) (hΦ:∀w,Φ w->rh K av U a.flat w) (hn:0<=x.n/\x.n<=1000) :
   CR 196 [.pointer (some ⟨p,0,none⟩),hM xv,hM av] w (λv w'=>v=.tuple #[]/\mP F (eQ K Φ p room {t with cD:=mH x a t.cD}) w w'):=by
 have u:=St.begin hF;obtain⟨B,E,rfl,_,_⟩:=jb (Ap _ (I _ u.aF));have Ym:a.flat.length<=40:=by rw[Bk.cY];exact iY.2.2.1
 have hppl:(gF t.cD).length<=90001:=by
  rw[Z];show(jn r false O).length<=_;rw[Z,ob]at nU;cases r with
  | nil=>show O.length<=_;omega
  | cons _ _ _ _=>show O.length+1<=_;omega
 refine eZ Tryz.func196 ?_;refine cH (x:=(⟨x.kind,x.eD,x.name,B,E,x.n,x.body,x.et,x.at_⟩:bE)) u (λb4 _ u=>bF NF u.p1 (H':=λ_=>eQ K (Φ) p room {t with cD:=gF t.cD}) (Φ:=λ_ _=>True) (λV M J=>?_) ?_)
 .exact(C164 K _ p room t V x a b r e O _ M (λw' hc=>I w' (J w' hc).aF) Z iY bM).mono λ_ _ r=>r.mono λ_ _ h=>⟨trivial,h.2⟩
 rintro _ _ _ u;refine aA jK (aB (v:=hH x.n) bO u.p1.hb rfl (aG (aC (λc=>?_) λc=>?_)))
 .rw[show mH x a t.cD=gF t.cD from by unfold mH;rw[ej c]];exact⟨rfl,u.p1.drop.mut⟩
 rw[show mH x a t.cD=jn a false ((.cons {x with n:=x.n-1} a .nil .nil,true)::gF t.cD)from by unfold mH;rw[ei c]];refine aD eK u.p1.At (bD ([⟨x.kind,x.eD,x.name,B,E,x.n,x.body,x.et,x.at_⟩]:List bE) u fq rfl rfl (dR rfl) λs13 _ u=>?_);have WJ:=hΦ _ (eQ.now u.p1);have hral:=(WJ.1 _ (I _ u.aF)).1;refine bL u fq (WJ.2 (I _ u.aF)) (by simp;omega) dC (λs15 _ u=>dM u fq bM ee λq17 Y=>mr jK Y λq18 W=>nE (x.n:Int) u bO W (x:=(⟨x.kind,x.eD,x.name,B,E,x.n,x.body,x.et,x.at_⟩:bE)) rfl rfl (fr bM (dM u fq bM ee λq21 h21=>mr jK h21 λq22 h22=>XV (x:=(⟨x.kind,x.eD,x.name,B,E,x.n,x.body,x.et,x.at_⟩:bE)) (⟨x.kind,x.eD,x.name,B,E,x.n-1,x.body,x.et,x.at_⟩:bE) (x.n-1:Int) u bO h22 rfl dC rfl λ_ u=>?_)))
 obtain⟨G,rfl⟩:=u.dS.fV;have u:=eQ.aks u.freeze
 have aiT:∀w',K w'->fR (((⟨x.kind,x.eD,x.name,B,E,x.n,x.body,x.et,x.at_⟩:bE)::U).set (0:Int).toNat (⟨x.kind,x.eD,x.name,B,E,x.n-1,x.body,x.et,x.at_⟩:bE)) (Bk.cons {x with n:=x.n-1} a .nil .nil).flat w':=λw' hw=>by
  rw[Q0];obtain⟨_,_,h4,h5,h6⟩:=Ap w' hw;cases h4
  exact fR.cons ⟨B,E,rfl,h5,h6⟩ (WJ.1 w' hw)
 refine bF ND u (H':=λ_=>eQ K (λw=>Φ w/\cZ (λ_=>True) w (hM G) (([(⟨x.kind,x.eD,x.name,B,E,x.n,x.body,x.et,x.at_⟩:bE)]++U).set (0:Int).toNat (⟨x.kind,x.eD,x.name,B,E,x.n-1,x.body,x.et,x.at_⟩:bE))) p room { {t with cD:=gF t.cD}with cD:=jn (Bk.cons {x with n:=x.n-1} a .nil .nil) true ({t with cD:=gF t.cD}).cD}) (Φ:=λ_ _=>True) (λV M J=>?_) ?_
 .exact(C116 K _ p room ({t with cD:=gF t.cD}) V G _ (Bk.cons {x with n:=x.n-1} a .nil .nil) true _ M (λw' hc=>I w' (J w' hc).aF) (λ_ h=>⟨aiT,λ_=>h.2⟩) (by show(gF t.cD).length<=_;omega)).mono λ_ _ r=>r.mono λ_ _ h=>⟨trivial,h.2⟩
 rintro _ _ _ u;refine bF ND u (H':=λ_=>eQ K (λw=>Φ w/\cZ (λ_=>True) w (hM G) (([(⟨x.kind,x.eD,x.name,B,E,x.n,x.body,x.et,x.at_⟩:bE)]++U).set (0:Int).toNat (⟨x.kind,x.eD,x.name,B,E,x.n-1,x.body,x.et,x.at_⟩:bE))) p room { {t with cD:=(.cons {x with n:=x.n-1} a .nil .nil,true)::gF t.cD}with cD:=jn a false ({t with cD:=(.cons {x with n:=x.n-1} a .nil .nil,true)::gF t.cD}).cD}) (Φ:=λ_ _=>True) (λV M J=>?_) ?_
 .exact(C116 K _ p room ({t with cD:=(.cons {x with n:=x.n-1} a .nil .nil,true)::gF t.cD}) V av U a false _ M (λw' hc=>I w' (J w' hc).aF) (λw h=>hΦ w h.1) (by show(gF t.cD).length+1<=_;omega)).mono λ_ _ r=>r.mono λ_ _ h=>⟨trivial,h.2⟩
 rintro _ _ _ u;exact⟨rfl,(eQ.mono u.p1.drop λ_ h=>h.1).mut⟩
def C117(K:g7)(p:Nat)(room:Int)(t tR:jS)(n:Nat)(cs ls:List ByteArray)(F:Nat->Prop)(w:World)(hF:(rD K p room t).p w F)(V:∀w',gz F w w'->K w')(jT:yx cs ls t)(hg:ti n t=some tR) :
   CR 117 [.pointer (some ⟨p,0,none⟩)] w (λv w'=>v=.tuple #[]/\mP F (rD K p room tR) w w'):=by
 have u:=St.begin hF;refine ae8 _ _ _ ?_;unfold S117;refine⟨λmm w'=>∃B:jS,ti mm B=some tR/\yx cs ls B/\St w F [rD K p room B] w',⟨n,t,hg,jT,u⟩,?_⟩;rintro mm _ ⟨B,B6,W,u⟩ _;obtain⟨k,rfl⟩:=Im B6;have nU:=Ec W.p;have Fu:=W.cl;have hnb:=W.nb;have G9:=W.rl;obtain⟨bp,nv,rg,pl,es,hk,u⟩:=eQ.open u;refine dO aar (C137 K p B bp nv rg pl es _ _ u.hb u.p3.dS u.p4.eA.1 (λ_ e=>V _ (u.aF.then e)) W.p bM) ?_;rintro v _ ⟨he,hv⟩;have u:=u.ext he
 rcases hv with⟨eE,rfl⟩|⟨x,a,b,xv,E,G,I,J,CJ,rfl,Ap,hab⟩
 .refine aO rfl (aO rfl (aO rfl (aO rfl (aR u jq λb2 w3 u=>aJ (x:=(⟨0,⟨#[]⟩,⟨#[]⟩,bW,bW,0,0,0,0⟩:bE)) u eK rfl rfl λw4 u=>bQ (gU ?_)))));rw[ph B6 (aam eE)];exact⟨rfl,(eQ.shut hk u.drop).mut⟩
 obtain⟨Y,Z,rfl,_,_⟩:=jb (Ap _ (V _ u.aF))
 have Q1:∀w,K w->cZ (λ_=>True) w (hM Y) x.e/\cZ (λ_=>True) w (hM Z) x.f:=λw hw=>by
  obtain⟨_,_,h4,h5,h6⟩:=jb (Ap w hw);cases h4
  exact⟨h5,h6⟩
 obtain⟨hx,sa,sb,aa,ab,KU,hb2,Ym,r,e,p',B0,sr,ar⟩:=W.top CJ;have iY:(Bk.cons x a b r).str:=W.p.st _ (by rw[B0];exact oi ..);have hxe:=hx.e;have u:=u.p4.dF (Ψ:=λw=>Ee K w es B.cD/\(rh K E I a.flat w/\rh K G J b.flat w)) (λw h=>⟨h.1,hab w h.1⟩);have u:=eQ.shut (Φ:=λw=>rh K E I a.flat w/\rh K G J b.flat w) (t:=B) hk u.p4.p4.p4.p4;refine aO rfl (aO rfl (aO rfl (aO rfl (aR u jq λb2 w3 u=>aJ (x:=(⟨x.kind,x.eD,x.name,Y,Z,x.n,x.body,x.et,x.at_⟩:bE)) u eK rfl rfl λw4 u=>bQ (ft (aA iT (aB (v:=hM Y) jH u.hb rfl (bF NG u.p1 (H':=λ_=>eQ K (λw=>rh K E I a.flat w/\rh K G J b.flat w) p room {B with fault:=if (eH B x.e).2=true then B.fault else 2}) (Φ:=λv _=>v=.tuple #[hH (eH B x.e).1,.bool (eH B x.e).2]) (λM O U=>?_) ?_))))))))
 .exact C161 K _ p room B M _ x.e _ O (λw' hc=>V w' (U w' hc).aF) (Q1 _ (V _ u.aF)).1 bM bM
 rintro _ w5 rfl u;refine aO rfl (aO rfl (bQ (aY (λc1=>?_) λc1=>?_)))
 .have h1:(eH B x.e).2=false:=by simpa using c1
  rw[h1]at u;rw[ph B6 (aan CJ h1)];exact⟨rfl,(eQ.mono u.p1.drop λ_ _=>trivial).mut⟩
 have h1:(eH B x.e).2=true:=by simpa using c1
 replace u:St w F [eQ K (λw=>rh K E I a.flat w/\rh K G J b.flat w) p room B,bY b2 (hZ (⟨x.kind,x.eD,x.name,Y,Z,x.n,x.body,x.et,x.at_⟩:bE))] w5:=by rw[h1]at u;exact u
 refine aA j3 (aB (v:=hM Z) jH u.p1.hb rfl (bF NG u (H':=λ_=>eQ K (λw=>rh K E I a.flat w/\rh K G J b.flat w) p room {B with fault:=if (eH B x.f).2=true then B.fault else 2}) (Φ:=λv _=>v=.tuple #[hH (eH B x.f).1,.bool (eH B x.f).2]) (λM O U=>?_) ?_))
 .exact C161 K _ p room B M _ x.f _ O (λw' hc=>V w' (U w' hc).aF) (Q1 _ (V _ u.aF)).2 bM bM
 rintro _ w6 rfl u;refine aO rfl (aO rfl (bQ (aY (λc2=>?_) λc2=>?_)))
 .have h2:(eH B x.f).2=false:=by simpa using c2
  rw[h2]at u;rw[ph B6 (aao CJ h2)];exact⟨rfl,(eQ.mono u.p1.drop λ_ _=>trivial).mut⟩
 have h2:(eH B x.f).2=true:=by simpa using c2
 replace u:St w F [eQ K (λw=>rh K E I a.flat w/\rh K G J b.flat w) p room B,bY b2 (hZ (⟨x.kind,x.eD,x.name,Y,Z,x.n,x.body,x.et,x.at_⟩:bE))] w6:=by rw[h2]at u;exact u
 have hgk:=aap CJ h1 h2
 have vY:∀(t2:jS) (w':World),qH B x a b (eH B x.e).1=(t2,true)->St w F [eQ K (λw=>rh K E I a.flat w/\rh K G J b.flat w) p room t2,bY b2 (hZ (⟨x.kind,x.eD,x.name,Y,Z,x.n,x.body,x.et,x.at_⟩:bE))] w'->∃m',m'<k+1/\∃B:jS,ti m' B=some tR/\yx cs ls B/\St w F [rD K p room B] w':=λt2 w' h3 h4=>by
  have h5:=hgk.trans h3;obtain⟨h6,h7,_⟩:=Ed W;rw[h5]at h6 h7;exact⟨k,L2 k,t2,TB B6 h5,h6,eQ.mono h4.p1.drop λ_ _=>trivial⟩
 refine aA dN (aB (v:=hH x.kind) bO u.p1.hb rfl (aG (aC (λk1=>?_) λk1=>?_)))
 .have hpm:=dK.1 (hx.rg (.inl k1));obtain⟨j,hj,Bs,_⟩:=lV hpm;have C1:=(j0.1 Bs).1;obtain⟨bp,nv,rg,pl,es,hk,u⟩:=eQ.open u;have u:=u.drew;refine aE (aA AO (aB eO u.hb rfl (aE (aA AN (aB je u.hb rfl (aA iG (aB (v:=.string x.eD) gB u.p5.hb rfl (aV HW u (C159 _ B.names x.eD _ (hk _ (V _ u.aF)) bM) λ_ he u=>?_))))))));refine⟨aI eO (u.hb.cell rfl),?_⟩;refine dM u.p2 cR bM bM (λq51 h51=>jo (eH B x.e).1 u.p2 bO h51 bM λ_ u=>have u:=eQ.shut (Φ:=λw=>rh K E I a.flat w/\rh K G J b.flat w) (t:=pg B x.eD (eH B x.e).1) hk u.p2.p2;bF NF u (H':=λ_=>eQ K (λw=>rh K E I a.flat w/\rh K G J b.flat w) p room {pg B x.eD (eH B x.e).1 with cD:=gF (pg B x.eD (eH B x.e).1).cD}) (Φ:=λ_ _=>True) (λM O U=>?_) ?_)
  .exact(C164 K _ p room (pg B x.eD (eH B x.e).1) M x a b r e p' _ O (λw' hc=>V w' (U w' hc).aF) B0 iY (by show B.cD.length<=_;omega)).mono λ_ _ r=>r.mono λ_ _ h=>⟨trivial,h.2⟩
  rintro _ _ _ u;exact vY _ _ (aal k1) u
 refine aG (aC (λk2=>?_) λk2=>?_)
 .refine bF NF u (H':=λ_=>eQ K (λw=>rh K E I a.flat w/\rh K G J b.flat w) p room {B with cD:=gF B.cD}) (Φ:=λ_ _=>True) (λM O U=>?_) ?_
  .exact(C164 K _ p room B M x a b r e p' _ O (λw' hc=>V w' (U w' hc).aF) B0 iY bM).mono λ_ _ r=>r.mono λ_ _ h=>⟨trivial,h.2⟩
  rintro _ w10 _ u;refine⟨λjv w'=>jv=(if (eH B x.e).1=0 then hM G else hM E)/\w'=w10,?_,?_⟩
  .refine aG ?_;refine aC (λc=>⟨(ej c).symm,rfl⟩) (λc=>⟨(ei c).symm,rfl⟩)
  rintro _ _ ⟨rfl,rfl⟩ _
  have hpq:(gF B.cD).length<=100000:=by
   have:=Ec W.p.pop;have:=QY B0;omega
  have e1:(if (eH B x.e).1=0 then hM G else hM E)=hM (if (eH B x.e).1=0 then G else E):=by split<;>rfl
  rw[e1];refine bF ND u (H':=λ_=>eQ K (λw=>rh K E I a.flat w/\rh K G J b.flat w) p room { {B with cD:=gF B.cD}with cD:=jn (if (eH B x.e).1=0 then b else a) false ({B with cD:=gF B.cD}).cD}) (Φ:=λ_ _=>True) (λM O U=>?_) ?_
  .exact(C116 K _ p room ({B with cD:=gF B.cD}) M (if (eH B x.e).1=0 then G else E) (if (eH B x.e).1=0 then J else I) (if (eH B x.e).1=0 then b else a) false _ O (λw' hc=>V w' (U w' hc).aF) (λ_ h=>by split;exact h.2;exact h.1) hpq).mono λ_ _ r=>r.mono λ_ _ h=>⟨trivial,h.2⟩
  rintro _ _ _ u;exact vY _ _ (Kd k2) u
 refine aG (aC (λk3=>?_) λk3=>?_)
 .refine aD eK u.p1.At (bF arV u (H':=λ_=>eQ K (λw=>rh K E I a.flat w/\rh K G J b.flat w) p room {B with cD:=mH x a B.cD}) (Φ:=λ_ _=>True) (λM O U=>?_) ?_)
  .exact(C196 K _ p room B M x ⟨x.kind,x.eD,x.name,Y,Z,x.n,x.body,x.et,x.at_⟩ E I a b r e p' _ O (λw' hc=>V w' (U w' hc).aF) B0 iY bM Ap (λ_ h=>h.1) (hx.n k3)).mono λ_ _ r=>r.mono λ_ _ h=>⟨trivial,h.2⟩
  rintro _ _ _ u;exact vY _ _ (TD k3) u
 refine aG (aC (λk4=>?_) λk4=>?_)
 .refine bF arW u (H':=λ_=>eQ K (λw=>rh K E I a.flat w/\rh K G J b.flat w) p room {B with cD:=kr B.cD}) (Φ:=λ_ _=>True) (λM O U=>?_) ?_
  .exact(C197 K _ p room B M _ O (λw' hc=>V w' (U w' hc).aF) bM).mono λ_ _ r=>r.mono λ_ _ h=>⟨trivial,h.2⟩
  rintro _ _ _ u;exact vY _ _ (TE k4) u
 refine aG (aC (λk5=>?_) λk5=>?_)
 .refine aG (aC (λc=>?_) λc=>?_)
  .obtain⟨bp,nv,rg,pl,es,hk,u⟩:=eQ.open u;refine aE (aA wR (aW u bO (dR rfl) rfl λ_ u=>?_));have u:=eQ.shut (Φ:=λw=>rh K E I a.flat w/\rh K G J b.flat w) (t:={B with fault:=1}) hk u;rw[ph B6 (hgk.trans (NB k5 c))];exact⟨rfl,(eQ.mono u.p1.drop λ_ _=>trivial).mut⟩
  refine bF NF u (H':=λ_=>eQ K (λw=>rh K E I a.flat w/\rh K G J b.flat w) p room {B with cD:=gF B.cD}) (Φ:=λ_ _=>True) (λM O U=>?_) ?_
  .exact(C164 K _ p room B M x a b r e p' _ O (λw' hc=>V w' (U w' hc).aF) B0 iY bM).mono λ_ _ r=>r.mono λ_ _ h=>⟨trivial,h.2⟩
  rintro _ _ _ u;exact vY _ _ (NC k5 c) u
 rw[ph B6 (hgk.trans (TF k1 k2 k3 k4 k5))];exact⟨rfl,(eQ.mono u.p1.drop λ_ _=>trivial).mut⟩
variable (w:World) (K:Value->g7)
def ayX:dJ:=λi=>match i with
 | 8=>(.of [(0,[]),(1,[]),(2,[]),(3,[]),(4,[]),(5,[]),(6,[]),(7,[]),(8,[]),(9,[]),(10,[]),(11,[]),(12,[]),(13,[]),(14,[7]),(15,[]),(16,[]),(17,[]),(18,[]),(19,[])])
 | _=>.nil
def S160(Z G a B:Value):Prop:=
 qW g6 (yB 193 a) w λb c=>aL 56 c λd e=>nC G λf=>fA 138 f 0 λg=>lA 88 g e λh=>cF 226 [h,B] e λj k=>xT j 0 λl=>xT j 1 λn=>Ey (λO=>
 eT g6 (Op.unary .not n) λo=>cV o (nC Z λp=>fA 96 p 4 λq=>lA 93 q k λs=>cF 227 [s,B] k λt u=>xT t 0 λv=>xT t 1 λ_=>O v (i 1) u) (O l (i 2) k))
 (λI E x=>∀_:Env,
 nC G λy=>fA 138 y 2 λz=>lA 41 z (drew x) λM=>nC G λab=>fA 138 ab 1 λV=>lA 91 V (drew x) λad=>fA 193 b 1 λW=>lA 9 W (drew x) λaf=>cF 159 [ad,af] (drew x) λag J=>
 kA 41 z M J (iA 41 M ag λY=>sA 3 Y I J λaj=>eT g6 (l1 56 [(0,E),(2,B),(3,I)].toArray) λU=>sA 56 d U aj λal=>lA 56 d al λr=>
 K r al))
def ayY:dJ:=λi=>match i with
 | 6=>(.of [(0,[]),(1,[]),(2,[]),(3,[]),(4,[]),(5,[]),(6,[]),(7,[]),(8,[]),(9,[]),(11,[]),(10,[3]),(12,[]),(13,[])])
 | _=>.nil
theorem ae9(G B E u:Value)(h:S160 w K G B E u):CR 160 [G,B,E,u] w K:=
 qm 49 ayY 256 [.cell 8 56] Tryz.func160 h
def S163(O E a B:Value):Prop:=
 qW g6 (yB 193 a) w λb c=>aL 56 c λd e=>nC O λf=>fA 96 f 4 λg=>lA 93 g e λh=>cF 227 [h,B] e λj k=>xT j 0 λl=>xT j 1 λ_=>fA 193 b 3 λn=>
 lA 82 n k λo=>cF 161 [E,o] k λp q=>xT p 0 λs=>xT p 1 λ_=>fA 193 b 4 λt=>lA 82 t q λu=>cF 161 [E,u] q λv x=>xT v 0 λy=>xT v 1 λ_=>nC E λz=>
 fA 138 z 2 λV=>lA 41 V (drew x) λW=>nC E λY=>fA 138 Y 1 λad=>lA 91 ad (drew x) λae=>fA 193 b 1 λaf=>lA 9 af (drew x) λag=>cF 159 [ae,ag] (drew x) λah M=>
 kA 41 V W M (iA 41 W ah λaj=>sA 3 aj l M λI=>bA .neq 3 l s λal=>cV al (eT g6 (l1 56 [(0,(i 9)),(2,B),(3,l)].toArray) λam=>sA 56 d am I λU=>
 lA 56 d U λr=>K r U) (nC O λao=>fA 96 ao 4 λap=>lA 93 ap I λaq=>cF 156 [aq,B,y] I λ_ ar=>eT g6 (l1 56 [(0,(i 8)),(2,B),(3,l),(4,y)].toArray) λG=>
 sA 56 d G ar λJ=>lA 56 d J λZ=>K Z J))
def ayZ:dJ:=λi=>match i with
 | 4=>(.of [(0,[]),(1,[]),(2,[]),(3,[]),(4,[]),(5,[]),(6,[]),(7,[]),(8,[]),(9,[]),(11,[]),(10,[3]),(12,[]),(13,[])])
 | _=>.nil
theorem afa(G B E u:Value)(h:S163 w K G B E u):CR 163 [G,B,E,u] w K:=
 qm 68 ayZ 256 [.cell 8 56] Tryz.func163 h
def S91(I O:Value):Prop:=
 aL 56 w λa b=>nC I λc=>fA 96 c 6 λd=>lA 94 d b λe=>iA 94 e O λf=>lA 135 f b λg=>nC g λh=>fA 138 h 4 λj=>lA 3 j b λk=>bB .neq 3 k (i 0) λl=>
 cV l (nC g λn=>fA 138 n 4 λo=>lA 3 o b λp=>cF 158 [I,O,p] b λq s=>sA 56 a q s λt=>lA 56 a t λr=>K r t) (cF 137 [g] b λu v=>xT u 0 λx=>xT u 1 λ_=>
 xT u 2 λ_=>xT u 3 λ_=>aL 193 v λy z=>sA 193 y x z λV=>nC I λab=>fA 96 ab 1 λac=>lA 91 ac (drew V) λad=>fA 193 y 2 λae=>lA 9 ae (drew V) λaf=>
 nC I λag=>fA 96 ag 2 λah=>lA 91 ah (drew V) λZ=>fA 193 y 2 λaj=>lA 9 aj (drew V) λY=>cF 159 [ad,af] (drew V) λal W=>kA 91 ah Z W (kA 9 aj Y W (
 cF 159 [Z,Y] W λU ao=>nC I λap=>fA 96 ap 0 λaq=>lA 27 aq ao λar=>cF 52 [ar,al] ao λG au=>aL 56 au λB E=>yS (λJ=>fA 193 y 0 λaw=>lA 3 aw E λM=>
 bB .eql 3 M (i 2) λay=>cV ay (lA 193 y E λaz=>cF 160 [I,g,az,al] E λa0 a1=>sA 56 B a0 a1 λa2=>J a2) (bB .eql 3 M (i 3) λa3=>cV a3 (fA 193 y 3 λa4=>
 lA 82 a4 E λa5=>cF 161 [g,a5] E λa6 a7=>xT a6 0 λa8=>xT a6 1 λ_=>nC g λa9=>fA 138 a9 0 λba=>lA 88 ba a7 λbb=>eT g6 (l1 231 [(0,(i 3)),(1,G),(2,al),(3,a8)].toArray) λbc=>
 cF 162 [bb,bc] a7 λ_ bd=>eT g6 (l1 56 [(0,(i 3)),(2,al),(3,a8)].toArray) λbe=>sA 56 B be bd λbf=>J bf) (bB .eql 3 M (i 5) λbg=>cV bg (nC g λbh=>
 fA 138 bh 0 λbi=>lA 88 bi E λbj=>eT g6 (l1 231 [(0,(i 5)),(1,G)].toArray) λbk=>cF 162 [bj,bk] E λ_ bl=>eT g6 (l1 56 [(0,(i 4)),(2,G)].toArray) λbm=>
 sA 56 B bm bl λbn=>J bn) (bB .eql 3 M (i 6) λbo=>cV bo (nC g λbp=>fA 138 bp 0 λbq=>lA 88 bq E λbr=>eT g6 (l1 231 [(0,(i 6)),(1,G)].toArray) λbs=>
 cF 162 [br,bs] E λ_ bt=>eT g6 (l1 56 [(0,(i 5)),(2,G)].toArray) λbu=>sA 56 B bu bt λbv=>J bv) (bB .eql 3 M (i 7) λbw=>cV bw (nC g λbx=>
 fA 138 bx 0 λbz=>lA 88 bz E λb0=>eT g6 (l1 231 [(0,(i 7))].toArray) λb1=>cF 162 [b0,b1] E λ_ b2=>eT g6 (l1 56 [(0,(i 6))].toArray) λb3=>
 sA 56 B b3 b2 λb4=>J b4) (bB .eql 3 M (i 8) λb5=>cV b5 (eT g6 (l1 56 [(0,(i 7))].toArray) λb6=>sA 56 B b6 E λb7=>J b7) (bB .eql 3 M (i 4) λb8=>
 cV b8 (lA 193 y E λb9=>cF 163 [I,g,b9,al] E λca cb=>sA 56 B ca cb λcc=>J cc) (bB .eql 3 M (i 9) λcd=>cV cd (nC I λce=>fA 96 ce 5 λcf=>lA 41 cf E λcg=>
 iA 41 cg U λch=>sA 3 ch O E λci=>eT g6 (l1 56 [(0,(i 10)),(2,U)].toArray) λcj=>sA 56 B cj ci λck=>J ck) (nC I λcl=>fA 96 cl 5 λcm=>
 lA 41 cm E λcn=>iA 41 cn U λco=>lA 3 co E λcp=>bA .neq 3 cp O λcq=>cV cq (cF 158 [I,O,(i 3)] E λcr cs=>sA 56 a cr cs λct=>lA 56 a ct λJc=>K Jc ct) (
 nC I λcu=>fA 96 cu 5 λcv=>lA 41 cv E λcw=>iA 41 cw U λcx=>sA 3 cx (i (-1)) E λcy=>eT g6 (l1 56 [(0,(i 11)),(2,U)].toArray) λcz=>sA 56 B cz cy λc0=>
 J c0)))))))))) (λc1=>∀_:Env,
 fA 56 B 1 λc2=>sA 3 c2 O c1 λc3=>cF 164 [g] c3 λ_ c4=>cF 117 [g] c4 λ_ c5=>lA 56 B c5 λc6=>sA 56 a c6 c5 λc7=>lA 56 a c7 λPl=>K Pl c7))))
def P91:dJ:=λi=>match i with
 | 5=>(.of [(0,[]),(1,[]),(2,[]),(3,[]),(4,[]),(5,[]),(7,[]),(8,[]),(9,[]),(10,[]),(11,[]),(12,[]),(6,[10,12]),(13,[]),(14,[]),(15,[])])
 | _=>.nil
theorem akx(B u:Value)(h:S91 w K B u):CR 91 [B,u] w K:=
 qm 171 P91 16 [.cell 4 56] Tryz.func91 h
def P90:dJ:=λi=>match i with
 | 1=>(.op 0 [] (.op 1 [] (.op 2 [] (.op 3 [] (.op 4 [] (.op 5 [] (.op 6 [] (.op 7 [] (.op 8 [] (.op 9 [] (.op 10 [] (.op 11 [] (.op 12 [] (.alt 13 [] (.of [(14,[]),(15,[]),(16,[]),(17,[3,5,7,10,12]),(18,[]),(19,[])]) (.alt 17 [3,5,7,10,12] (.of [(13,[]),(14,[]),(15,[]),(16,[]),(18,[]),(19,[])]) .stop)))))))))))))))
 | 4=>.run 0 9
 | 8=>.run 0 7
 | _=>.nil
def P56:dJ:=λi=>match i with
 | 9=>(.of [(0,[]),(1,[]),(2,[]),(3,[]),(4,[]),(5,[]),(6,[2]),(7,[]),(8,[]),(9,[])])
 | _=>.nil
def P24:dJ:=λi=>match i with
 | 1=>.run 0 30
 | _=>.nil
def P68:dJ:=λi=>match i with
 | 2=>(.of [(0,[]),(1,[]),(2,[]),(3,[]),(4,[]),(5,[]),(6,[]),(7,[]),(8,[]),(9,[]),(10,[]),(11,[]),(12,[]),(13,[3,7,11]),(14,[])])
 | _=>.nil
def S70(B:Value):Prop:=
 nC B λa=>fA 96 a 0 λb=>lA 27 b w λc=>cF 54 [c] w λd e=>nC B λf=>fA 96 f 0 λg=>fA 27 g 5 λh=>lA 25 h e λj=>lN 25 j λk=>oN (λJ G l n=>∀_:Env,
 bA .lss 3 l k λo=>cV o (eS (λK2=>iA 25 j l λp=>lA 85 p n λq=>aL 85 n λO r=>sA 85 O q r λs=>fA 85 O 0 λt=>lA 82 t (drew s) λu=>nC B λv=>fA 96 v 1 λx=>
 lA 91 x (drew s) λy=>eT g6 (nT 91 y none (some d) none) λz=>cF 72 [B] (drew s) λaa I=>kA 82 t u I (kA 91 x y I (eT g6 (nT 41 aa none (some d) none) λW=>
 cF 143 [u,z,W] I λU M=>xT U 0 λaf=>xT U 1 λag=>bB .eql 31 ag (i 0) λY=>cV Y (bB .neq 3 af (i 0) λZ=>bS 117 1 [(0,Z)] M λaj V=>aP 117 G aj V λal am=>
 K2 al am) (bS 117 1 [(0,ff)] M λan ao=>aP 117 G an ao λap aq=>K2 ap aq)))) (λI9 ar=>∀_:Env,
 bB .add 3 l (i 1) λE=>J I9 E ar)) (K G n)) (λJ=>J (.slice none 0 0) (i 0) e)
def P70:dJ:=λi=>match i with
 | 6=>(.of [(0,[]),(1,[]),(2,[]),(3,[]),(4,[]),(5,[]),(6,[]),(7,[]),(8,[]),(10,[]),(9,[1,5]),(11,[]),(12,[]),(13,[]),(14,[]),(15,[]),(16,[]),(17,[])])
 | _=>.nil
theorem aky(u:Value)(h:S70 w K u):CR 70 [u] w K:=
 qm 51 P70 4 [.tmp 2] Tryz.func70 h
def S12(p0 M:Value):Prop:=
 qW g6 (yB 27 p0) w λp2 a=>lA 27 p2 a λb=>cF 48 [b] a λc d=>xT c 0 λe=>xT c 1 λ_=>bB .neq 31 e (i 0) λf=>cV f (K (.tuple #[(.pointer none),e]) d) (
 cF 49 [M] d λg h=>xT g 0 λ_=>xT g 1 λj=>bB .neq 31 j (i 0) λk=>cV k (K (.tuple #[(.pointer none),j]) h) (lA 27 p2 (drew h) λl=>lA 27 p2 (drew h) λn=>lA 27 p2 (drew h) λo=>
 cF 50 [n] (drew h) λp q=>kA 27 p2 l q (kA 27 p2 o q (cF 51 [o] q λr s=>kA 27 p2 l s (eT g6 (l1 96 [(0,l),(1,p),(2,r),(3,M)].toArray) λt=>qW g6 (yB 96 t) s λu v=>
 nC u λx=>fA 96 x 1 λy=>lA 91 y v λz=>lN 91 z λaa=>oN (λJ G I E=>∀_:Env,
 bA .lss 3 I aa λad=>cV ad (lA 27 p2 E λZ=>cF 52 [Z,I] E λaf ag=>bS 41 1 [(0,af)] ag λah ai=>aP 41 G ah ai λaj Y=>bB .add 3 I (i 1) λal=>J aj al Y) (
 lA 27 p2 (drew E) λam=>lA 27 p2 (drew E) λO=>cF 54 [am] (drew E) λao U=>kA 27 p2 O U (cF 55 [O] U λaq ar=>cF 53 [G,ao,aq] ar λB au=>xT B 0 λav=>
 xT B 1 λ_=>nC u λaw=>fA 96 aw 4 λW=>sA 93 W av au λV=>fA 27 p2 3 λaz=>lA 24 az V λa0=>cF 56 [u,a0] V λ_ a1=>K (.tuple #[u,(i 0)]) a1))) λJ=>J (.slice none 0 0) (i 0) v)))))
def P12:dJ:=λi=>match i with
 | 7=>(.of [(0,[]),(1,[]),(3,[]),(5,[]),(2,[0,3]),(4,[0]),(6,[]),(7,[]),(8,[])])
 | 14=>(.of [(0,[]),(1,[]),(2,[]),(4,[]),(3,[4]),(5,[]),(6,[]),(7,[]),(8,[]),(9,[]),(10,[]),(11,[]),(12,[])])
 | _=>.nil
theorem akz(p0 u:Value)(h:S12 w K p0 u):CR 12 [p0,u] w K:=
 qm 69 P12 48 [.tmp 4,.tmp 5] Tryz.func12 h
def S87(E:Value):Prop:=
 lN 41 E λa=>oN (λu B b c=>∀_:Env,
 bA .lss 3 b a λd=>cV d (iA 41 E b λe=>lA 3 e c λf=>bB .mul 3 B (i 10000) λg=>bA .add 3 g f λh=>bB .add 3 b (i 1) λj=>u h j c) (K B c)) (λu=>u (i 0) (i 0) w)
theorem akA(u:Value)(h:S87 w K u):CR 87 [u] w K:=
 qm 18 (λ_=>.nil) 4 [.tmp 2] Tryz.func87 h
theorem ar4:PL 138:=dL Tryz.func138
theorem ar5:PL 67:=dL Tryz.func67
theorem ahT:PL 158:=dL Tryz.func158
theorem ar6:PL 160:=dL Tryz.func160
theorem ar7:PL 163:=dL Tryz.func163
theorem ay0:PL 91:=dL Tryz.func91
theorem ay1:PL 90:=dL Tryz.func90
theorem ar8:PL 56:=dL Tryz.func56
theorem ar9:PL 24:=dL Tryz.func24
theorem ay2:PL 88:=dL Tryz.func88
theorem akB:PL 68:=dL Tryz.func68
theorem asa:PL 140:=dL Tryz.func140
theorem akC:PL 72:=dL Tryz.func72
theorem ay3:PL 70:=dL Tryz.func70
theorem asb:PL 12:=dL Tryz.func12
theorem ay4:PL 87:=dL Tryz.func87
theorem asc:PL 142:=dL Tryz.func142
theorem asd:PL 217:=dL Tryz.func217
end Go.Proofs.YtpdlpabnlkofmaaGreatDoor
namespace Go.Proofs.YtpdlpabnlkofmaaGreatDoor
open Go.Fw
def CK(B:Int)(u:Int):pr g6 (l1 50 [(0,hH B),(1,hH u)].toArray)=some (.agg [hH B,hH u,hH 0,.slice none 0 0].toArray):=by kernel_rfl
def Dh(E:Int)(u:Int)(B:Int):pr g6 (l1 50 [(0,hH E),(1,hH u),(2,hH B)].toArray)=some (.agg [hH E,hH u,hH B,.slice none 0 0].toArray):=by kernel_rfl
def Vu(G:Int)(E:Option Addr)(u B:Nat):pr g6 (l1 50 [(0,hH G),(3,.slice E u B)].toArray)=some (.agg [hH G,hH 0,hH 0,.slice E u B].toArray):=by kernel_rfl
def Kh:pr g6 (l1 56 [].toArray)=some (.agg [hH 0,hH 0,hH 0,hH 0,hH 0].toArray):=by kernel_rfl
def Ki(u:Int):pr g6 (l1 56 [(0,hH u)].toArray)=some (.agg [hH u,hH 0,hH 0,hH 0,hH 0].toArray):=by kernel_rfl
def Io(B:Int)(u:Int):pr g6 (l1 56 [(0,hH B),(1,hH u)].toArray)=some (.agg [hH B,hH u,hH 0,hH 0,hH 0].toArray):=by kernel_rfl
def tK(E:Int)(u:Int)(B:Int):pr g6 (l1 56 [(0,hH E),(1,hH u),(2,hH B)].toArray)=some (.agg [hH E,hH u,hH B,hH 0,hH 0].toArray):=by kernel_rfl
def zo(E:Int)(G:Int)(B:Int)(u:Int):pr g6 (l1 56 [(0,hH E),(1,hH G),(2,hH B),(3,hH u)].toArray)=some (.agg [hH E,hH G,hH B,hH u,hH 0].toArray):=by kernel_rfl
def oE(B:Int)(u:Int):pr g6 (l1 56 [(0,hH B),(2,hH u)].toArray)=some (.agg [hH B,hH 0,hH u,hH 0,hH 0].toArray):=by kernel_rfl
def mI(E:Int)(B:Int)(u:Int):pr g6 (l1 56 [(0,hH E),(2,hH B),(3,hH u)].toArray)=some (.agg [hH E,hH 0,hH B,hH u,hH 0].toArray):=by kernel_rfl
def zp(G:Int)(E:Int)(B:Int)(u:Int):pr g6 (l1 56 [(0,hH G),(2,hH E),(3,hH B),(4,hH u)].toArray)=some (.agg [hH G,hH 0,hH E,hH B,hH u].toArray):=by kernel_rfl
def Ip(B:Int)(u:Int):pr g6 (l1 56 [(0,hH B),(3,hH u)].toArray)=some (.agg [hH B,hH 0,hH 0,hH u,hH 0].toArray):=by kernel_rfl
def Ha(NI:Option Addr)(I B:Nat)(Z:Option Addr)(O G:Nat)(NK:Option Addr)(E u:Nat)(NL:Option Addr)(NM U:Nat)(W:Option Addr)(NQ NR:Nat)(Y:Option Addr)(J M:Nat)(a1:Option Addr)(n1 c1:Nat)(a2:Option Addr)(n2 V:Nat)(a3:Int):pr g6 (l1 96 [(0,.agg [.slice NI I B,.slice Z O G,.slice NK E u,.slice NL NM U,.slice W NQ NR,.slice Y J M].toArray),(1,.slice a1 n1 c1),(2,.slice a2 n2 V),(3,hH a3)].toArray)=some (.agg [.slice NI I B,.slice Z O G,.slice NK E u,.slice NL NM U,.slice W NQ NR,.slice Y J M,.slice a1 n1 c1,.slice a2 n2 V,hH a3,.pointer none,.slice none 0 0,.slice none 0 0,hH 0,hH 0,hH 0].toArray):=by kernel_rfl
def Kj(E:Int)(u:Int)(B:Int):pr g6 (l1 114 [(0,hH E),(1,hH u),(2,hH B)].toArray)=some (.agg [hH E,hH u,hH B,.bool false,.bool false].toArray):=by kernel_rfl
def Kk(B:Option Addr)(G:Option Addr)(E u:Nat)(J:Option Addr)(I M:Nat):pr g6 (l1 138 [(0,.pointer B),(1,.slice G E u),(2,.slice J I M)].toArray)=some (.agg [.pointer B,.slice G E u,.slice J I M,.slice none 0 0,hH 0].toArray):=by kernel_rfl
def vE(B:Int)(u:Int):pr g6 (l1 231 [(0,hH B),(1,hH u)].toArray)=some (.agg [hH B,hH u,hH 0,hH 0].toArray):=by kernel_rfl
def xJ(E:Int)(G:Int)(B:Int)(u:Int):pr g6 (l1 231 [(0,hH E),(1,hH G),(2,hH B),(3,hH u)].toArray)=some (.agg [hH E,hH G,hH B,hH u].toArray):=by kernel_rfl
structure gl where
 p:cA
 room:Int
 mem:Mem
 eW:List Int
 l:List jS
 dI:Int
 fault:Int
 ku:Int
structure DA where
 pv:bN
 cv:SV
 kv:SV
 q:Nat
 ov:Value
 fv:Value
 ow:Value
 ll:Value
 ps:List Ptr
@[reducible] def qQ(a:DA)(s:gl):List Value:=[hM a.pv.lines,hM a.pv.iO,hM a.pv.eI,hM a.pv.threads,hM a.pv.recover,hM a.pv.eb,hM a.cv,hM a.kv,.int .i64 s.room,.pointer (some ⟨a.q,0,none⟩),a.ow,a.ll,.int .i64 s.dI,.int .i64 s.fault,.int .i64 s.ku]
def ThK(K:g7)(E:cE)(t:cM):Prop:=∃(B u:SV) (rows:List bE),E=⟨t.name,B,u,t.at_⟩/\(∀w,K w->cZ (λ_=>True) w (hM B) t.dQ)/\∀w,rh K u rows t.body w
def DF(K:g7)(u:List cE)(qP:List cM):Prop:=u.length=qP.length/\∀(j:Nat) (B:cE) (t:cM),u[j]?=some B->qP[j]?=some t->ThK K B t
structure DUK(K:g7)(a:DA)(s:gl):Prop where
 pr:∀w,K w->mv w a.pv s.p
 cs:∀w,K w->cZ (λ_=>True) w (hM a.cv) (cX s.p)
 ks:∀w,K w->cZ (λ_=>True) w (hM a.kv) (cL s.p)
 mem:∀w,K w->Bx a.ov a.fv s.mem w
 rc:∃vF,(∀w,K w->cZ (λ_=>True) w (hM a.pv.recover) vF)/\DF K vF s.p.recover
abbrev yP(K:g7)(room:Int)(s:Ptr)(t:jS):HP:=rD K s.b room t
def gv(K:g7)(p:Nat)(m:gl):HP:=pK λa:DA=>fact (DUK K a m) (sep (bY p (qQ a m)) (sep (iM a.q a.ov a.fv m.mem) (sep (bH a.ow m.eW) (sep (bH a.ll a.ps) (ie (yP K m.room) a.ps m.l)))))
def mY(K:g7)(p:Nat)(m:gl)(i:Nat)(tp:Ptr):HP:=pK λa:DA=>fact (DUK K a m/\a.ps[i]?=some tp/\a.ps.length=m.l.length/\i<m.l.length) (sep (bY p (qQ a m)) (sep (iM a.q a.ov a.fv m.mem) (sep (bH a.ow m.eW) (sep (bH a.ll a.ps) (nG (yP K m.room) a.ps m.l i)))))
section
variable {w w' w0:World}{A:Nat->Prop}{R:List HP}{p:Nat}{K:g7}{m:gl}{a:DA}{i:Nat}{tp:Ptr}{t:jS}
theorem gv.open(u:St w0 A (gv K p m::R) w):∃a,DUK K a m/\St w0 A (bY p (qQ a m)::iM a.q a.ov a.fv m.mem::bH a.ow m.eW::bH a.ll a.ps::ie (yP K m.room) a.ps m.l::R) w:=by
 obtain⟨a,u⟩:=u.eg;obtain⟨B,u⟩:=u.mq;exact⟨a,B,sO u⟩
theorem gv.shut(u:DUK K a m)(B:St w0 A (bY p (qQ a m)::iM a.q a.ov a.fv m.mem::bH a.ow m.eW::bH a.ll a.ps::ie (yP K m.room) a.ps m.l::R) w):St w0 A (gv K p m::R) w:=
 St.eh a (St.oz u (sP B))
theorem mY.open(u:St w0 A (mY K p m i tp::R) w):∃a,(DUK K a m/\a.ps[i]?=some tp/\a.ps.length=m.l.length/\i<m.l.length)/\St w0 A (bY p (qQ a m)::iM a.q a.ov a.fv m.mem::bH a.ow m.eW::bH a.ll a.ps::nG (yP K m.room) a.ps m.l i::R) w:=by
 obtain⟨a,u⟩:=u.eg;obtain⟨B,u⟩:=u.mq;exact⟨a,B,sO u⟩
theorem mY.shut(u:DUK K a m/\a.ps[i]?=some tp/\a.ps.length=m.l.length/\i<m.l.length)(B:St w0 A (bY p (qQ a m)::iM a.q a.ov a.fv m.mem::bH a.ow m.eW::bH a.ll a.ps::nG (yP K m.room) a.ps m.l i::R) w):St w0 A (mY K p m i tp::R) w:=
 St.eh a (St.oz u (sP B))
structure ase(K:g7)(w:World)(p:Nat)(m:gl)(a:DA):Prop where
 uk:DUK K a m
 b:qd w p (qQ a m)
 mem:yO w a.q m.mem
 ow:cZ (λ_=>True) w a.ow m.eW
 ll:cZ (λ_=>True) w a.ll a.ps
 th:∀(i:Nat) (s:Ptr) (t:jS),a.ps[i]?=some s->m.l[i]?=some t->Has (rD K s.b m.room t) w
 len:a.ps.length=m.l.length
theorem gv.rd(h:Has (gv K p m) w)(E:K w):∃a,ase K w p m a:=by
 obtain⟨F,u⟩:=h.st
 obtain⟨a,B,u⟩:=gv.open u
 exact⟨a,B,u.hb,J9 u.p1 (B.mem _ E),u.p2.dS,u.p3.dS,λi s t h1 h2=>u.p4.aiV h1 h2 (Φ:=λw=>Has (rD K s.b m.room t) w) λh=>⟨_,h⟩,u.p4.iV⟩
theorem aaE{ps:List Ptr}(B:St w0 A (ie (yP K m.room) ps m.l::R) w)(u:ps[i]?=some tp)(ht:m.l[i]?=some t):St w0 A (rD K tp.b m.room t::nG (yP K m.room) ps m.l i::R) w:=B.focus u ht
theorem xK(B:St w0 A (rD K tp.b m.room t::mY K p m i tp::R) w):St w0 A (gv K p {m with l:=m.l.set i t}::R) w:=by
 obtain⟨a,⟨u,E,G,hi⟩,B⟩:=mY.open B.p1
 have h1:St w0 A (yP K m.room tp t::nG (yP K m.room) a.ps m.l i::_) w:=B.p4.p5
 have h2:=h1.DZ hi G E
 have h3:=h2.p4.p4.p4.p4
 exact gv.shut (m:={m with l:=m.l.set i t}) ⟨u.pr,u.cs,u.ks,u.mem,u.rc⟩ h3
end
def sQ(m:gl)(t:jS):Bool:=match pf t.cD with
 | none=>false
 | some (x,_,_)=>if t.fault≠0\/x.kind=2 then true else if x.kind=3\/x.kind=5\/x.kind=6\/x.kind=7 then !decide (m.room<=t.buf.length)
  else if x.kind=9/\m.eW.getD (cU (cL m.p) x.name).toNat 0≠-1 then false else decide (t.buf.length=0)
def rE(m:gl)(i:Nat)(t:jS):List aS:=(if sQ m t=true then [⟨1,i,0,[]⟩]else [])++(pC t.buf).map λk=>⟨2,i,k,[]⟩
def il(m:gl)(k:Nat):List aS:=(wx k).flatMap λi=>match m.l[i]? with|some t=>rE m i t|none=>[]
def gj(m:gl):List aS:=if m.fault≠0 then []else il m m.l.length
def mJ(m:gl):List aS:=if m.fault≠0 then []else(By m.mem).map λc=>⟨3,0,0,c⟩
theorem ug{m:gl}{k:Nat}{t:jS}(h:m.l[k]?=some t):il m (k+1)=il m k++rE m k t:=by
 unfold il;rw[Hr,K0];simp[h]
def aaF(t:jS):Prop:=t.fault=0->∀x a b,pf t.cD=some (x,a,b)->(2<=x.kind/\x.kind<=10)/\(eH t x.e).2=true/\(eH t x.f).2=true
structure nL(m:gl):Prop where
 mem:ve m.mem
 th:∀t∈m.l,yx (cX m.p) (cL m.p) t
 tl:m.l.length<=1000
 ow:m.eW.length=(cL m.p).length
 rm:1<=m.room/\m.room<=16
 st:∀t∈m.l,aaF t
 pz:PZ m.p
def z7(l:List bI):(pC l).length<=l.length:=by grind[pC]
def NT(m:gl)(i:Nat)(t:jS):(rE m i t).length<=1+t.buf.length:=by
 have:=z7 t.buf
 unfold rE;grind
theorem rF{m:gl}(h:nL m):∀k,(il m k).length<=k*1001
 | 0=>by simp[il]
 | k+1=>by
  have u:=rF h k
  cases ht:m.l[k]? with
  | none=>
   have e:il m (k+1)=il m k:=by unfold il;rw[Hr,K0];simp[ht]
   grind
  | some t=>
   rw[ug ht,kU]
   have:=NT m k t
   have:=(h.th t (kp ht)).bl
   omega
def z8{m:gl}(h:nL m):(gj m).length<=1001000:=by
 unfold gj;split
 .simp
 exact te (rF h _) (Nat.mul_le_mul_right 1001 h.tl)
def im(m:gl)(t:jS)(c:Int):Int:=if (ly t.buf c).isSome=true then(ly t.buf c).getD 0 else jA m.mem c
def dP(m:gl)(x:bP):Int:=cU (cX m.p) x.name
def fD(m:gl)(x:bP):Int:=cU (cL m.p) x.name
def fy(m:gl)(x:bP):Int:=pB m.p (dP m x)
def pX(m:gl)(t:jS)(y:bI):jS:={t with buf:=sJ m.room t.buf y}
def xL(m:gl)(t:jS)(x:bP):cG:=⟨if (ly t.buf (dP m x)).isSome=true then 2 else 1,0,dP m x,im m t (dP m x),0⟩
def rG(m:gl)(t:jS)(x:bP):gl:=if jA m.mem (dP m x)=(eH t x.e).1 then {m with mem:=fh m.mem (dP m x) (eH t x.f).1}else m
def tL(m:gl)(t:jS)(x:bP):cG:=if jA m.mem (dP m x)=(eH t x.e).1 then⟨8,0,dP m x,jA m.mem (dP m x),(eH t x.f).1⟩else⟨9,0,dP m x,jA m.mem (dP m x),0⟩
def pD(m:gl)(x:bP)(i:Int):gl:={m with eW:=m.eW.set (fD m x).toNat i}
def dY(m:gl)(t:jS)(i:Int)(x:bP):gl×jS×cG:=
 if x.kind=2 then(m,pg t x.eD (im m t (dP m x)),xL m t x)
 else if x.kind=3 then(m,pX m t ⟨3,fy m x,dP m x,(eH t x.e).1⟩,⟨3,0,dP m x,(eH t x.e).1,0⟩)
 else if x.kind=5 then(m,pX m t ⟨5,fy m x,0,0⟩,⟨4,0,fy m x,0,0⟩)
 else if x.kind=6 then(m,pX m t ⟨6,fy m x,0,0⟩,⟨5,0,fy m x,0,0⟩)
 else if x.kind=7 then(m,pX m t ⟨7,0,0,0⟩,⟨6,0,0,0,0⟩)
 else if x.kind=8 then(m,t,⟨7,0,0,0,0⟩)
 else if x.kind=4 then(rG m t x,pg t x.eD (jA m.mem (dP m x)),tL m t x)
 else if x.kind=9 then(pD m x i,t,⟨10,0,fD m x,0,0⟩)
 else(pD m x (-1),t,⟨11,0,fD m x,0,0⟩)
def uh(m:gl)(t:jS)(i:Int)(x:bP):jS:=goD { (dY m t i x).2.1 with cD:=gF (dY m t i x).2.1.cD}
def iy(m:gl)(i:Int):gl×cG:=match m.l[i.toNat]? with
 | none=>(m,⟨0,0,0,0,0⟩)
 | some t=>if t.fault≠0 then({m with fault:=t.fault,ku:=i},⟨16,i,t.fault,0,0⟩)else match pf t.cD with
  | none=>(m,⟨0,0,0,0,0⟩)
  | some (x,_,_)=>if x.kind=10/\m.eW.getD (fD m x).toNat 0≠i then({m with fault:=3,ku:=i},⟨16,i,3,0,0⟩)
   else({ (dY m t i x).1 with l:=m.l.set i.toNat (uh m t i x)},{ (dY m t i x).2.2 with t:=i})
def tj(m:gl)(t:jS)(q:aS):gl:={m with mem:=jP m.mem (dH t.buf q.i),l:=m.l.set q.t.toNat {t with buf:=jO t.buf q.i}}
def Iq(l:List bP):Bk:=(tf l).getD .nil
def wm(t:cM):jS:=⟨t.dQ,qV t.dQ.length 0,jn (Iq t.body) false [],0,[]⟩
def Vv(t:cM):jS:=goD (wm t)
def qR(m:gl)(l:List cM):gl:={m with eW:=qV (cL m.p).length (-1),l:=l.map Vv}
def iQ(m:gl)(q:aS):Option (List Int):=if q.kind=3/\q.t=0/\q.i=0/\m.fault=0 then fo m.mem q.cut else none
def pj(m:gl)(u:List Int):gl:={m with mem:=mG m.mem u,dI:=m.dI+1}
def uY(m:gl):List cM:=if m.p.recover.length=0 then [⟨⟨#[]⟩,[],[],0⟩]else m.p.recover
def pk(m:gl)(q:aS):gl×cG×Int:=match iQ m q with
 | some u=>(qR (pj m u) (uY m),⟨15,0,0,qG q.cut q.cut.length,0⟩,0)
 | none=>if (gj m).any (nd q)=true then
   (if q.kind=2 then(match m.l[q.t.toNat]? with|some t=>(tj m t q,tg q.t (dH t.buf q.i),0)|none=>(m,⟨0,0,0,0,0⟩,13))else((iy m q.t).1,(iy m q.t).2,0))
  else(m,⟨0,0,0,0,0⟩,13)
def z9(t:jS):Bool:=decide (t.cD.length=0)&&decide (t.buf.length=0)
def pE(m:gl):Bool:=decide (m.fault=0)&&!(wx m.l.length).any λi=>match m.l[i]? with|some t=>!z9 t|none=>false
def sR(m:gl):Bool:=decide (m.fault=0)&&(!pE m&&decide (((gj m).length:Int)=0))
def qk(m:gl):mU:=⟨m.dI,m.fault,m.ku,pE m,sR m⟩
def yy(m:gl)(c:gV):Bool:=decide ((qO (iC m.p) (m.mem.l.take (eN m.p).toNat) c.e).2=0)&&decide ((qO (iC m.p) (m.mem.l.take (eN m.p).toNat) c.e).1≠0)
def ql(m:gl):List Bool:=m.p.eb.map (yy m)
def BB(p:cA):List Int:=(wx (cX p).length).map fun (i:Nat)=>pB p (i:Int)
def xM(p:cA)(room:Int):gl:=⟨p,room,Kb (BB p) (eN p) (fm p),[],[],0,0,0⟩
def gY(p:cA)(room:Int):gl:=qR (xM p room) p.threads
def C141(K Φ:g7)(p:Nat)(room:Int)(t:jS)(w:World)(G:Has (eQ K Φ p room t) w)(U:t.buf.length<=1000):CR 141 [.pointer (some ⟨p,0,none⟩)] w (λv w'=>v=.bool (decide (t.buf.length=0))/\Ext w w'):=by
 obtain⟨J,V,rg,pl,es,O,E,I,M,W,Y,_⟩:=eQ.rd G;have B:=E.cell (o:=0) rfl;have u:=St.start w;refine eZ Tryz.func141 ?_;exact aE (aA oT (bX AJ (B.ext u.aF) (dT anQ u (C153 J _ _ _ (I.ext u.aF) bM) λ_ _ _ u=>aH fW u.dS (aG ⟨vb (e8.2 bM),u.drop.aF⟩))))
def C138(K Φ:g7)(p:Nat)(m:gl)(q:Nat)(t:jS)(w:World)(hm:Has (gv K p m) w)(M:∀w',Ext w w'->K w')(Y:nL m)(hh:Has (eQ K Φ q m.room t) w)(CL:t∈m.l):CR 138 [.pointer (some ⟨p,0,none⟩),.pointer (some ⟨q,0,none⟩)] w (λv w'=>v=.bool (sQ m t)/\Ext w w'):=by
 obtain⟨a,J⟩:=gv.rd hm (M _ (Ext.refl _));have Z:=J.b.cell (o:=7) rfl;have Vw:=J.b.cell (o:=10) rfl;have E:=Y.th t CL;have HI:=E.bl;have akE:(cL m.p).length<=500:=by unfold cL;rw[mE];exact Y.pz.eI
 have nU:=Ec E.p;have Fu:=E.cl;obtain⟨bp,nv,rg,pl,es,hk,uX,hB,Ef,Vt,Kg,_⟩:=eQ.rd hh;have O:=uX.cell (o:=0) rfl;have W:=uX.cell (o:=4) rfl;have u:=St.start w;refine py Tryz.func138 (pl:=ayX) ?_;refine dO aar (C137 K q t bp nv rg pl es _ _ uX Vt Kg M E.p bM) ?_;rintro v _ ⟨he,hv⟩;have u:=u.ext he
 rcases hv with⟨eE,rfl⟩|⟨x,xa,xb,xv,av,bv,ra,rb,CJ,rfl,Ap,_⟩
 .exact aO rfl (aO rfl (aO rfl (aO rfl (aR u jq λ_ _ u=>aJ (x:=(⟨0,⟨#[]⟩,⟨#[]⟩,bW,bW,0,0,0,0⟩:bE)) u eK rfl rfl λ_ u=>bQ (gU ⟨vb (by unfold sQ;rw[eE]),u.drop.aF⟩)))))
 obtain⟨ge,gf,rfl,_,_⟩:=jb (Ap _ (M _ u.aF));have hx:=(E.top CJ).1;have B:sQ m t=(if t.fault≠0\/x.kind=2 then true else if x.kind=3\/x.kind=5\/x.kind=6\/x.kind=7 then !decide (m.room<=t.buf.length)else if x.kind=9/\m.eW.getD (cU (cL m.p) x.name).toNat 0≠-1 then false else decide (t.buf.length=0)):=by unfold sQ;rw[CJ]
 refine aO rfl (aO rfl (aO rfl (aO rfl (aR u jq λb5 w2 u=>aJ (x:=(⟨x.kind,x.eD,x.name,ge,gf,x.n,x.body,x.et,x.at_⟩:bE)) u eK rfl rfl λw3 u=>bQ (ft ?_)))));refine⟨λI w'=>I=.bool (decide (t.fault≠0\/x.kind=2))/\w'=w3,?_,?_⟩
 .exact aE (aA wR (bX bO (W.ext u.aF) (bV (aC (λ_=>⟨vb (ew bM).symm,rfl⟩) λ_=>aA dN (aB (v:=hH x.kind) bO u.hb rfl (aG ⟨vb (e8.2 bM),rfl⟩))))))
 rintro _ w4 ⟨rfl,rfl⟩ _;refine aC (λc1=>?_) (λc1=>?_)
 .exact⟨vb (by rw[B,ej c1]),u.drop.aF⟩
 rw[ei c1]at B;refine⟨λI w'=>I=.bool (decide (x.kind=3\/x.kind=5\/x.kind=6\/x.kind=7))/\w'=w4,?_,?_⟩
 .refine aA dN (aB (v:=hH x.kind) bO u.hb rfl ?_);exact aG (aC (λ_=>⟨vb (ew bM).symm,rfl⟩) λ_=>aA dN (aB (v:=hH x.kind) bO u.hb rfl (aG (aC (λ_=>⟨vb (ew bM).symm,rfl⟩) λ_=>aA dN (aB (v:=hH x.kind) bO u.hb rfl (aG (aC (λ_=>⟨vb (ew bM).symm,rfl⟩) λ_=>aA dN (aB (v:=hH x.kind) bO u.hb rfl (aG ⟨vb (e8.2 bM),rfl⟩)))))))))
 rintro _ _ ⟨rfl,rfl⟩ _;refine aC (λV=>?_) (λV=>?_)
 .exact aE (aA oT (bX AJ (O.ext u.aF) (aV agB u (C215 bp _ _ _ (hB.ext u.aF)) λ_ _ u=>bQ ⟨vb (by rw[B,ej V]),u.drop.aF⟩)))
 rw[ei V]at B;refine⟨λI w'=>I=.bool (decide (x.kind=9/\m.eW.getD (cU (cL m.p) x.name).toNat 0≠-1))/\St w aZ [bY b5 (hZ (⟨x.kind,x.eD,x.name,ge,gf,x.n,x.body,x.et,x.at_⟩:bE))] w',?_,?_⟩
 .have u:=u.drew;refine aA dN (aB (v:=hH x.kind) bO u.hb rfl (aG (aC (λc3=>?_) λ_=>⟨vb (ez bM).symm,u⟩)));obtain⟨j,hj,Bs,_⟩:=lV (dK.1 (hx.lk (.inl c3)));have C1:=(j0.1 Bs).1;have how:=Y.ow;refine aE (aA vk (bX eO (Vw.ext u.aF) (aE (aA Jr (bX je (Z.ext u.aF) (aA gh (aB (v:=.string x.name) gB u.hb rfl (aV HW u (C159 _ (cL m.p) x.name _ (J.uk.ks _ (M _ u.aF)) bM) λ_ he u=>?_))))))));refine⟨aI eO (Vw.ext u.aF),?_⟩;obtain⟨ov,G⟩:=gx m.eW (i:=(cU (cL m.p) x.name).toNat) bM
  refine aN cR (J.ow.ext u.aF) bM G (λq71 h71=>aD bO h71 (bV ?_));refine⟨vb (e8.2 ?_),u⟩;rw[n0,G];exact⟨λh=>⟨c3,h⟩,λh=>h.2⟩
 rintro _ _ ⟨rfl,u⟩ _;refine aC (λU=>?_) (λU=>?_)
 .exact⟨vb (by rw[B,ej U]),u.drop.aF⟩
 exact aV ahQ u (C141 K Φ q m.room t _ (hh.ext u.aF) HI) (λ_ _ u=>⟨vb (by rw[B,ei U]),u.drop.aF⟩)
def C67(K:g7)(p:Nat)(m:gl)(w:World)(W:Has (gv K p m) w)(Z:∀w',Ext w w'->K w')(I:nL m):CR 67 [.pointer (some ⟨p,0,none⟩)] w (λv w'=>kP (fz v (gj m)) w w'):=by
 obtain⟨a,E⟩:=gv.rd W (Z _ (Ext.refl _));have Q2:=E.b.cell (o:=11) rfl;have Vx:=E.b.cell (o:=13) rfl;have hlen:=E.len;have Pp:=I.tl;have u:=St.start w;refine eZ Tryz.func67 ?_;refine aE (aA yk (bX bO (Vx.ext u.aF) (bV (aC (λc=>?_) λc=>?_))))
 .have B:gj m=[]:=by unfold gj;rw[ej c]
  rw[B];exact u.JA.fresh
 have B:gj m=il m m.l.length:=by unfold gj;rw[ei c]
 rw[B];refine aE (aA vl (bX Jp (Q2.ext u.aF) (aH LM (E.ll.ext u.aF) ?_)));refine⟨λG o y J=>∃k:Nat,y=hH (k:Int)/\G=a.ps.length-k/\k<=a.ps.length/\St w aZ [fz o (il m k)] J,⟨_,0,rfl,rfl,la _,u.JA⟩,?_⟩;rintro G o _ J ⟨k,rfl,rfl,hk,u⟩ _;have nU:=rF I k;have R4:k*1001<=1001000:=bM
 refine aQ (aC (λc1=>?_) λc1=>?_);rotate_left
 .rw[show k=m.l.length from bM]at u;exact u.fresh
 obtain⟨e,U⟩:=gx a.ps (i:=((k:Nat):Int).toNat) bM;obtain⟨t,ht⟩:=gx m.l (i:=k) bM;have CL:=kp ht;have HI:=(I.th t CL).bl;have hth:=E.th k e t U ht;obtain⟨bp,nv,rg,pl,es,KS,uX,hB,Ef,Vt,Kg,_⟩:=eQ.rd hth;have O:=uX.cell (o:=0) rfl;refine aN LM (E.ll.ext u.aF) bM U (λq M=>aD HA M ?_);refine⟨λjv w'=>St w aZ [fz jv (il m k++(if sQ m t=true then [(⟨1,k,0,[]⟩:aS)]else []))] w',?_,?_⟩
 .refine aV ar4 u (C138 K _ p m e.b t _ (W.ext u.aF) (λ_ e=>Z _ (u.aF.then e)) I (hth.ext u.aF) CL) (λ_ U u=>aY (λV=>?_) λV=>?_)
  .refine pop (CK 1 (k:Int)) (have u:=u.fH (Φ:=λw=>mv w (⟨1,(k:Int),0,bW⟩:aM) (⟨1,(k:Int),0,[]⟩:aS)) (λw=>⟨bW,rfl,DL.nil w⟩);gk (x:=(⟨1,(k:Int),0,[]⟩:aS)) (s:=(⟨1,(k:Int),0,bW⟩:aM)) u gH dC λs29 _ u=>fS u.p1 gH (by rw[l0];omega) dC λs30 _ u=>?_);rw[ej V];exact u
  rw[ei (by rw[V];decide),oo];exact u
 rintro o2 _ u _;refine aE (aA oT (bX AJ (O.ext u.aF) (dT anM u (C139 bp _ _ _ (hB.ext u.aF) bM) λKX _ cK u=>?_)));have Fu:=z7 t.buf;refine aH cR u.dS ?_;refine⟨λG o y J=>∃j:Nat,y=hH (j:Int)/\G=(pC t.buf).length-j/\j<=(pC t.buf).length/\St w aZ [fz o (il m k++(if sQ m t=true then [(⟨1,k,0,[]⟩:aS)]else [])++((pC t.buf).take j).map λi=>(⟨2,k,i,[]⟩:aS)),bH KX (pC t.buf)] J,⟨_,0,rfl,rfl,la _,by rw[List.take_zero,List.map_nil,oo];exact u.p1⟩,?_⟩;rintro G o3 _ _ ⟨j,rfl,rfl,hj,u⟩ _;refine aQ (aC (λc3=>?_) λc3=>?_)
 .obtain⟨y,Y⟩:=gx (pC t.buf) (i:=((j:Nat):Int).toNat) bM;exact aN cR u.p1.dS bM Y (λ_ M=>aD bO M (pop (Dh 2 (k:Int) y) (have u:=u.fH (Φ:=λw=>mv w (⟨2,(k:Int),y,bW⟩:aM) (⟨2,(k:Int),y,[]⟩:aS)) (λw=>⟨bW,rfl,DL.nil w⟩);gk (x:=(⟨2,(k:Int),y,[]⟩:aS)) (s:=(⟨2,(k:Int),y,bW⟩:aM)) u gH dC λ_ _ u=>fS u.p1 gH (by simp only[kU,mE,lY,l0];split<;>simp<;>omega) dC λ_ _ u=>aK bM ⟨_,bM,j+1,rfl,rfl,bM,by rw[<- gP (k:=j) Y,<- nk];exact u⟩)))
 rw[kE bM]at u;refine aK bM ?_;refine⟨_,bM,k+1,rfl,rfl,bM,?_⟩;rw[ug ht];unfold rE;rw[<- nk];exact u.p1.drop
def ahV:PL 227:=dL Tryz.func227
def ay7:PL 53:=dL Tryz.func53
def C158(K:g7)(p:Nat)(m:gl)(i kind:Int)(F:Nat->Prop)(w:World)(E:(gv K p m).p w F):CR 158 [.pointer (some ⟨p,0,none⟩),hH i,hH kind] w (λv w'=>v=hM (⟨16,i,kind,0,0⟩:cG)/\mP F (gv K p {m with fault:=kind,ku:=i}) w w'):=by
 have u:=St.begin E;refine eZ Tryz.func158 ?_;obtain⟨a,B,u⟩:=gv.open u;exact aR u nh (λ_ _ u=>have u:=u.enc (cs':=hZ (⟨0,0,0,0,0⟩:cG)) rfl;aE (aA yk (aW u.p1 bO (dR rfl) rfl λ_ u=>aE (aA Su (aW u bO (dR rfl) rfl λ_ u=>pop (tK 16 i kind) (aJ (x:=(⟨16,i,kind,0,0⟩:cG)) u.p1 fj rfl rfl λ_ u=>aD fj u.At ⟨rfl,(gv.shut (m:={m with fault:=kind,ku:=i}) ⟨B.pr,B.cs,B.ks,B.mem,B.rc⟩ u.drop).mut⟩))))))
def C160(K:g7)(p:Nat)(m:gl)(n:Nat)(tp:Ptr)(t:jS)(x:bP)(W:bE)(F:Nat->Prop)(c:Int)(w:World)(hF:(sep (rD K tp.b m.room t) (mY K p m n tp)).p w F)(I:∀w',gz F w w'->K w')(E:yx (cX m.p) (cL m.p) t)(G:ve m.mem)(Ap:∀w,K w->mv w W x)(Ef:0<=cU t.names x.eD):CR 160 [.pointer (some ⟨p,0,none⟩),.pointer (some ⟨tp.b,0,none⟩),hM W,hH c] w (λv w'=>v=hM (⟨if (ly t.buf c).isSome=true then 2 else 1,0,c,im m t c,0⟩:cG)/\mP F (sep (rD K tp.b m.room (pg t x.eD (im m t c))) (mY K p m n tp)) w w'):=by
 have u:=(St.begin hF).split;obtain⟨U,V,rfl,_,_⟩:=jb (Ap _ (I _ u.aF));obtain⟨j,hj,Bs,_⟩:=lV (dK.1 Ef);have C1:=(j0.1 Bs).1;have hnb:=E.nb;have G9:=E.rl;have HI:=E.bl;refine ae9 _ _ _ _ _ _ ?_;unfold S160;refine cH (x:=(⟨x.kind,x.eD,x.name,U,V,x.n,x.body,x.et,x.at_⟩:bE)) u (λb6 _ u=>aR u nh λb8 _ u=>?_);have u:=(u.enc (cs':=hZ (⟨0,0,0,0,0⟩:cG)) rfl).p2;obtain⟨O,nv,rg,pl,es,Z,u⟩:=eQ.open u;refine aE (aA oT (aB AJ u.hb rfl (aV an1 u (C226 O c m.room t.buf _ (Ea u.p1) bM) λ_ he u=>aO rfl (aO rfl ?_))))
 refine⟨λn9 B w'=>n9=hH (im m t c)/\B=hH (if (ly t.buf c).isSome=true then 2 else 1)/\St w F [bY tp.b (BA O nv rg pl t.fault),jg O m.room t.buf,bH rg t.dQ,bH pl (O2 es),eA (λw=>Ee K w es t.cD/\True),bY b8 (hZ (⟨0,0,0,0,0⟩:cG)),bY b6 (hZ (⟨x.kind,x.eD,x.name,U,V,x.n,x.body,x.et,x.at_⟩:bE)),mY K p m n tp] w',?_,?_⟩
 .refine bQ (aY (λM=>?_) λM=>?_)
  .have h1:(ly t.buf c).isSome=false:=by simpa using M
   have u:=u.p7;obtain⟨a,Y,u⟩:=mY.open u;exact aE (aA tA (aB LL u.hb rfl (aV ahV u (ahN a.q m.mem c _ (J9 u.p1 (Y.1.mem _ (I _ u.aF))) G) λ_ _ u=>aO rfl (aO rfl (have u:=(((((((mY.shut (m:=m) Y u.p4.p4.p4.p4.p4).p7).p7).p7).p7).p7).p7).p7;⟨by unfold im;rw[ei (by rw[h1];decide)],by rw[ei (by rw[h1];decide)],u⟩)))))
  have h1:(ly t.buf c).isSome=true:=by simpa using M
  exact⟨by unfold im;rw[ej h1],by rw[ej h1],u⟩
 rintro _ _ _ ⟨rfl,rfl,u⟩ _;have u:=u.drew;refine aE (aA AO (aB eO u.hb rfl (aE (aA AN (aB je u.hb rfl (aA iG (aB (v:=.string x.eD) gB u.p6.hb rfl (aV HW u (C159 _ t.names x.eD _ (Z _ (I _ u.aF)) bM) λ_ he u=>?_))))))));refine⟨aI eO (u.hb.cell rfl),?_⟩;exact dM u.p2 cR bM bM (λ_ J=>jo (im m t c:Int) u.p2 bO J bM λ_ u=>pop (mI (if (ly t.buf c).isSome=true then 2 else 1) c (im m t c)) (aJ (x:=(⟨if (ly t.buf c).isSome=true then 2 else 1,0,c,im m t c,0⟩:cG)) u.p5 fj rfl rfl λ_ u=>aD fj u.At (have u:=eQ.shut (Φ:=λ_=>True) (t:=pg t x.eD (im m t c)) Z u.drop.p5.drop.p4.p4.p2.p4.p4;have u:=u.p1.p1;⟨rfl,(St.join u).mut⟩)))
def C163(K:g7)(p:Nat)(m:gl)(n:Nat)(tp:Ptr)(t:jS)(x:bP)(xv:bE)(F:Nat->Prop)(w:World)(hF:(sep (rD K tp.b m.room t) (mY K p m n tp)).p w F)(E:∀w',gz F w w'->K w')(jT:yx (cX m.p) (cL m.p) t)(I:ve m.mem)(Ap:∀w,K w->mv w xv x)(Ef:0<=cU t.names x.eD)(og:MB m.mem 1000000)(WC:x.e.length<=1000/\x.f.length<=1000)(hv1:(eH t x.e).2=true)(hv2:(eH t x.f).2=true):CR 163 [.pointer (some ⟨p,0,none⟩),.pointer (some ⟨tp.b,0,none⟩),hM xv,hH (dP m x)] w (λv w'=>v=hM (tL m t x)/\mP F (sep (rD K tp.b m.room (pg t x.eD (jA m.mem (dP m x)))) (mY K p (rG m t x) n tp)) w w'):=by
 have u:=(St.begin hF).split;obtain⟨W,Y,rfl,_,_⟩:=jb (Ap _ (E _ u.aF))
 have Q1:∀w,K w->cZ (λ_=>True) w (hM W) x.e/\cZ (λ_=>True) w (hM Y) x.f:=λw hw=>by
  obtain⟨_,_,h4,h5,h6⟩:=jb (Ap w hw);cases h4
  exact⟨h5,h6⟩
 obtain⟨j,hj,Bs,_⟩:=lV (dK.1 Ef);have C1:=(j0.1 Bs).1;have hnb:=jT.nb;have G9:=jT.rl;have ht1:{t with fault:=if (eH t x.e).2=true then t.fault else 2}=t:=by rw[hv1];rfl
 have ht2:{t with fault:=if (eH t x.f).2=true then t.fault else 2}=t:=by rw[hv2];rfl
 obtain⟨c,hc⟩:∃c,c=dP m x:=⟨_,rfl⟩;rw[<- hc];refine afa _ _ _ _ _ _ ?_;unfold S163;refine cH (x:=(⟨x.kind,x.eD,x.name,W,Y,x.n,x.body,x.et,x.at_⟩:bE)) u (λb6 _ u=>aR u nh λb8 _ u=>?_);have u:=(u.enc (cs':=hZ (⟨0,0,0,0,0⟩:cG)) rfl).p3;obtain⟨a,B,u⟩:=mY.open u;refine aE (aA tA (aB LL u.hb rfl (aV ahV u (ahN a.q m.mem c _ (J9 u.p1 (B.1.mem _ (E _ u.aF))) I) λ_ he u=>aO rfl (aO rfl (aA iT (aB (v:=hM W) jH u.p6.hb rfl (have u:=u.p7;bF NG u (H':=λ_=>rD K tp.b m.room t) (Φ:=λv _=>v=.tuple #[hH (eH t x.e).1,.bool (eH t x.e).2]) (λJ M U=>?_) ?_)))))))
 .have:=C161 K _ tp.b m.room t J _ x.e _ M (λw' hc=>E w' (U w' hc).aF) (Q1 _ (E _ u.aF)).1 bM bM;rw[ht1]at this;exact this
 rintro _ _ rfl u;refine aO rfl (aO rfl (aA j3 (aB (v:=hM Y) jH u.p7.hb rfl (bF NG u (H':=λ_=>rD K tp.b m.room t) (Φ:=λv _=>v=.tuple #[hH (eH t x.f).1,.bool (eH t x.f).2]) (λJ M U=>?_) ?_))))
 .have:=C161 K _ tp.b m.room t J _ x.f _ M (λw' hc=>E w' (U w' hc).aF) (Q1 _ (E _ u.aF)).2 bM bM;rw[ht2]at this;exact this
 rintro _ _ rfl u;refine aO rfl (aO rfl ?_);obtain⟨bp,nv,rg,pl,es,hk,u⟩:=eQ.open u;have u:=u.drew;refine aE (aA AO (aB eO u.hb rfl (aE (aA AN (aB je u.hb rfl (aA iG (aB (v:=.string x.eD) gB u.p11.hb rfl (aV HW u (C159 _ t.names x.eD _ (hk _ (E _ u.aF)) bM) λ_ he u=>?_))))))));refine⟨aI eO (u.hb.cell rfl),?_⟩;refine dM u.p2 cR bM bM (λ_ V=>jo (jA m.mem c:Int) u.p2 bO V bM λw6' u=>have u:=eQ.shut (Φ:=λ_=>True) (t:=pg t x.eD (jA m.mem c)) hk u.p4.p4.p2.p4.p4;bV (aC (λO=>?_) λO=>?_))
 .have G:rG m t x=m:=by unfold rG;rw[<- hc,ei O]
  have Z:tL m t x=⟨9,0,c,jA m.mem c,0⟩:=by unfold tL;rw[<- hc,ei O]
  refine pop (mI 9 c (jA m.mem c)) (aJ (x:=(⟨9,0,c,jA m.mem c,0⟩:cG)) u.p6 fj rfl rfl λ_ u=>aD fj u.At ?_);have u:=(mY.shut (m:=m) B u.drop.p6.drop.p5.p5.p5.p5.p5).p1;rw[G,Z];exact⟨rfl,(St.join u).mut⟩
 have G:rG m t x={m with mem:=fh m.mem c (eH t x.f).1}:=by unfold rG;rw[<- hc,ej (by simpa using O)]
 have Z:tL m t x=⟨8,0,c,jA m.mem c,(eH t x.f).1⟩:=by unfold tL;rw[<- hc,ej (by simpa using O)]
 refine aE (aA tA (aB LL u.p1.hb rfl (have u:=u.p2;bF agw u (H':=λ_=>iM a.q a.ov a.fv (fh m.mem c (eH t x.f).1)) (Φ:=λ_ _=>True) (λJ M U=>?_) ?_)))
 .exact(C156 a.q a.ov a.fv m.mem J c _ _ M (λw' hc=>B.1.mem _ (E w' (U w' hc).aF)) I og).mono λ_ _ r=>r.mono λ_ _ h=>⟨trivial,h.2⟩
 rintro _ _ _ u;refine pop (zp 8 c (jA m.mem c) (eH t x.f).1) (aJ (x:=(⟨8,0,c,jA m.mem c,(eH t x.f).1⟩:cG)) u.p6 fj rfl rfl λ_ u=>aD fj u.At ?_);have u:=mY.shut (m:={m with mem:=fh m.mem c (eH t x.f).1}) (⟨⟨B.1.pr,B.1.cs,B.1.ks,λw hw=>(B.1.mem w hw).write,B.1.rc⟩,B.2⟩) u.drop.p6.drop.p5.p5.p5.p3.p5;have u:=u.p1;rw[G,Z];exact⟨rfl,(St.join u).mut⟩
def C87(cv:Value)(cut:List Int)(w:World)(G:cZ (λ_=>True) w cv cut)(V:cut.length<=1000000):CR 87 [cv] w (λv w'=>v=hH (qG cut cut.length)/\Ext w w'):=by
 have u:=St.start w;refine akA _ _ _ ?_;unfold S87;refine aH cR (G.ext u.aF) ?_;refine⟨λJ n x I=>∃k:Nat,n=hH (qG cut k)/\x=hH (k:Int)/\J=cut.length-k/\k<=cut.length/\St w aZ [] I,⟨_,0,rfl,rfl,rfl,la _,u⟩,?_⟩;rintro J _ _ I ⟨k,rfl,rfl,rfl,O,u⟩ _;refine aQ (aC (λU=>?_) λ_=>⟨by rw[show cut.length=k from bM],u.aF⟩);obtain⟨E,B⟩:=gx cut (i:=(k:Int).toNat) bM;exact aN cR G bM B (λ_ M=>aD bO (M.ext u.aF) (wX (uH (aK bM ⟨_,bM,k+1,by rw[Ga (k:=k) B],rfl,rfl,bM,u⟩))))
def C88(q x:aS)(V:aM)(b:Nat)(W:aM)(w:World)(Y:mv w V q)(B:At (λ_=>True) w (.pointer (some ⟨b,0,none⟩)) W)(U:mv w W x):CR 88 [hM V,(.pointer (some ⟨b,0,none⟩))] w (λv w'=>v=.bool (nd x q)/\Ext w w'):=by
 obtain⟨E,rfl,auJ⟩:=Y;obtain⟨J,rfl,G⟩:=U;have u:=St.start w;refine eZ Tryz.func88 ?_;refine cH u (λO _ u=>⟨λjv w'=>jv=.bool (nd x q)/\St w aZ [bY O (hZ (⟨q.kind,q.t,q.i,E⟩:aM))] w',?_,?_⟩)
 .refine aA nO (aB (v:=hH q.kind) bO u.hb rfl (bU x.kind nO B rfl rfl λ_ M=>aD bO (M.ext u.aF) (aG (aC (λgJ=>aA lC (aB (v:=hH q.t) bO u.hb rfl (bU x.t lC B rfl rfl λ_ YU=>aD bO (YU.ext u.aF) (aG (aC (λjy=>aA qf (aB (v:=hH q.i) bO u.hb rfl (bU x.i qf B rfl rfl λ_ Z=>aD bO (Z.ext u.aF) (aG (aC (λkQ=>?_) λ_=>⟨vb (by unfold nd;first|(simp_all;done)|grind),u⟩))))) λ_=>⟨vb (by unfold nd;first|(simp_all;done)|grind),u⟩))))) λ_=>⟨vb (by unfold nd;first|(simp_all;done)|grind),u⟩))))
  refine bU J oQ B rfl rfl (λ_ xd=>aD eO (xd.ext u.aF) ?_);have I:=DL.flat G;exact aH cR (I.ext u.aF) (aG ⟨vb (by unfold nd;first|(simp_all;done)|grind),u⟩)
 rintro _ _ ⟨rfl,u⟩ _;exact⟨rfl,u.drop.aF⟩
theorem qd.ext{w w':World}{b:Nat}{cs:List Value}(h:qd w b cs)(e:Ext w w'):qd w' b cs:=h.of_eq (e.bY b h.lt λh=>h)
def CM(s:ByteArray)(a:Int)(t:ByteArray):Bool:=decide (a+t.size<=s.size)&&decide (s.extract a.toNat (a+t.size).toNat=t)
def whF(p:UInt8->Bool)(s:ByteArray):Nat->Nat->Nat
 | 0,a=>a
 | n+1,a=>match (iN s)[a]? with
  | some c=>if p c=true then whF p s n (a+1)else a
  | none=>a
def wo(p:UInt8->Bool)(s:ByteArray)(a:Nat):Nat:=whF p s (s.size-a) a
section
variable {p:UInt8->Bool}{s:ByteArray}{k:Nat}{c:UInt8}
theorem Kl(h:s.size<=k):wo p s k=k:=by unfold wo;simp_all[whF]
theorem qS(h:(iN s)[k]?=some c):k<s.size:=by have:=(j0.1 h).1;rw[eY]at this;exact this
theorem Gd(h:(iN s)[k]?=some c)(B:p c=true):wo p s k=wo p s (k+1):=by
 have u:=qS h
 unfold wo
 rw[show s.size-k=(s.size-(k+1))+1 from bM,whF,h]
 grind
theorem Ge(h:(iN s)[k]?=some c)(B:p c=false):wo p s k=k:=by
 have u:=qS h
 unfold wo
 rw[show s.size-k=(s.size-(k+1))+1 from bM,whF,h]
 grind
end
def uj(c:UInt8):Bool:=decide (c.toNat=32\/c.toNat=9\/c.toNat=10\/c.toNat=13)
def xN(c:UInt8):Bool:=decide (c.toNat≠10)
def sS(c:UInt8):Bool:=gE c.toNat||kj c.toNat
def wq(c:UInt8):Bool:=kj c.toNat
def lz(s:ByteArray):Nat->Nat->Option Nat
 | 0,_=>none
 | n+1,a=>match (iN s)[a]? with
  | none=>some a
  | some c=>if uj c=true then lz s n (a+1)else if CM s a ⟨#[47,47]⟩=true then lz s n (wo xN s a)else some a
theorem Q3{s:ByteArray}{n a r:Nat}(h:lz s n a=some r):∃k,n=k+1:=by
 cases n with
 | zero=>cases h
 | succ k=>grind
section
variable {s:ByteArray}{n a r:Nat}{c:UInt8}
theorem Vy(h:lz s (n+1) a=some r)(u:s.size<=a):r=a:=by
 unfold lz at h;rw[mW (by rw[eY];exact u)]at h;grind
theorem Di(h:lz s (n+1) a=some r)(hc:(iN s)[a]?=some c)(hb:uj c=true):lz s n (a+1)=some r:=by
 grind[lz]
theorem Ir(h:lz s (n+1) a=some r)(hc:(iN s)[a]?=some c)(hb:uj c=false)(u:CM s a ⟨#[47,47]⟩=true):lz s n (wo xN s a)=some r:=by
 grind[lz,wo,xN]
theorem NU(h:lz s (n+1) a=some r)(hc:(iN s)[a]?=some c)(hb:uj c=false)(u:CM s a ⟨#[47,47]⟩=false):r=a:=by
 unfold lz at h;grind
theorem aaI:∀(n a:Nat) (p:UInt8->Bool),a<=whF p s n a/\whF p s n a<=max a s.size
 | 0,a,p=>⟨o1 _,by unfold whF;omega⟩
 | n+1,a,p=>by
  unfold whF
  cases h:(iN s)[a]? with
  | none=>grind
  | some c=>
   dsimp only
   split
   .have:=aaI n (a+1) p;have:=qS h;omega
   omega
theorem Q4(p:UInt8->Bool):a<=wo p s a/\wo p s a<=max a s.size:=aaI _ _ _
theorem BC:∀{n a r:Nat},lz s n a=some r->a<=s.size->a<=r/\r<=s.size
 | 0,_,_,h,_=>by cases h
 | n+1,a,r,h,u=>by
  cases hc:(iN s)[a]? with
  | none=>unfold lz at h;grind
  | some c=>
   have B:=qS hc
   cases hb:uj c with
   | true=>have:=BC (Di h hc hb) bM;omega
   | false=>
    cases hr:CM s a ⟨#[47,47]⟩with
    | true=>have h1:=Q4 (s:=s) (a:=a) xN;have:=BC (Ir h hc hb hr) bM;omega
    | false=>have:=NU h hc hb hr;omega
end
def DG:List ByteArray:=[⟨#[61,61]⟩,⟨#[33,61]⟩,⟨#[60,61]⟩,⟨#[38,38]⟩,⟨#[124,124]⟩]
def qK(s:ByteArray)(a:Nat)(c:UInt8):Int:=if DG.any (CM s a)=true then 2 else if (iN (ia #[40,41,123,125,59,44,61,60,33,43,45,42,47,37])).any (λx=>decide ((x.toNat:Int)=c.toNat))=true then 1 else 0
def tM(l:List bR)(i:Int)(t:ByteArray):Bool:=decide (0<=i)&&(match l[i.toNat]? with|some x=>decide (x.text=t)&&decide (x.kind≠2)&&decide (1<=x.kind)&&decide (x.kind<=3)|none=>false)
def nq(l:List bR)(i:Int):Int:=match (if 0<=i then l[i.toNat]? else none)with
 | some x=>x.at_
 | none=>match l.getLast? with
  | some x=>x.at_+x.text.size
  | none=>0
def aff:∀t∈DG,t.size<=1000000:=dC
def sT{l:List bR}{i:Int}{t:ByteArray}(h:tM l i t=true):0<=i/\i<l.length:=by
 unfold tM at h
 grind
def C254(s t:ByteArray)(i:Int)(w:World)(I:s.size<=1000000)(G:t.size<=1000000)(J:0<=i/\i<=2000000):CR 254 [.string s,hH i,.string t] w (λv w'=>v=.bool (CM s i t)/\Ext w w'):=by
 have u:=St.start w;refine eZ Tryz.func254 ?_;refine⟨λE w'=>E=.bool (CM s i t)/\w=w',fg iq (aK bM (fg iq (gA (aC (λ_=>fg iq (aK bM (Ma iq bM bM bM (jB ⟨vb (by unfold CM;grind),rfl⟩)))) λ_=>⟨vb (by unfold CM;grind),rfl⟩)))),?_⟩;rintro _ _ ⟨rfl,B⟩ _;subst B;exact⟨rfl,u.aF⟩
theorem C205(s:ByteArray)(i N r:Nat)(w:World)(Y:s.size<=4000)(h0:i<=s.size)(hr:lz s N i=some r):CR 205 [.string s,hH (i:Int)] w (λv w'=>v=hH (r:Int)/\Ext w w'):=by
 have hz0:=Y;replace Y:s.size<=1000000:=bM
 have u:=St.start w;refine eZ Tryz.func205 ?_;refine⟨λI x G=>∃a:Nat,x=hH (a:Int)/\a<=s.size/\lz s I a=some r/\St w aZ [] G,⟨N,i,rfl,h0,hr,u⟩,?_⟩;rintro I _ G ⟨a,rfl,ha,E,u⟩ _;obtain⟨k,rfl⟩:=Q3 E;refine fg iq (aQ (aC (λjC=>?_) λjC=>?_))
 .obtain⟨YP,J⟩:∃xx,(iN s)[(a:Int).toNat]?=some xx:=⟨_,kO (by rw[eY];omega)⟩;refine jQ iq bM J ⟨λjv w'=>jv=.bool (uj YP)/\G=w',nF (aC (λ_=>⟨vb (by unfold uj;first|exact(ew bM).symm|exact e8.2 bM),rfl⟩) λ_=>nF (aC (λ_=>⟨vb (by unfold uj;first|exact(ew bM).symm|exact e8.2 bM),rfl⟩) λ_=>nF (aC (λ_=>⟨vb (by unfold uj;first|exact(ew bM).symm|exact e8.2 bM),rfl⟩) λ_=>nF ⟨vb (by unfold uj;first|exact(ew bM).symm|exact e8.2 bM),rfl⟩))),?_⟩
  rintro _ _ ⟨rfl,Z⟩ _;subst Z;refine aY (λO=>?_) (λO=>aV agF u (C254 s (ia #[47,47]) (a:Int) _ Y dC bM) λ_ he u=>aY (λU=>?_) λU=>?_)
  .refine aK bM ?_;have Ym:=qS J;exact⟨k,bM,a+1,rfl,bM,Di E J O,u⟩
  .refine⟨λI x G=>∃j:Nat,x=hH (j:Int)/\I=s.size-j/\a<=j/\j<=s.size/\wo xN s a=wo xN s j/\St w aZ [] G,⟨_,a,rfl,rfl,o1 _,ha,rfl,u⟩,?_⟩;rintro I _ w4 ⟨j,rfl,rfl,haj,hj,iY,u⟩ _;refine⟨λjv w'=>jv=.bool (match (iN s)[j]? with|some c=>xN c|none=>false)/\w4=w',fg iq (aQ (aC (λlr=>?_) λlr=>⟨vb (by first|(rw[show(iN s)[j]?=some xG from W];unfold xN;exact e8.2 bM)|(rw[mW (by rw[eY];omega)])),rfl⟩)),?_⟩
   .obtain⟨xG,W⟩:∃xx,(iN s)[(j:Int).toNat]?=some xx:=⟨_,kO (by rw[eY];omega)⟩;exact jQ iq bM W (X0 ⟨vb (by first|(rw[show(iN s)[j]?=some xG from W];unfold xN;exact e8.2 bM)|(rw[mW (by rw[eY];omega)])),rfl⟩)
   rintro _ _ ⟨rfl,Z⟩ _;subst Z;refine aY (λB=>?_) (λB=>?_)
   .refine aK bM ?_
    have M:∃c,(iN s)[j]?=some c/\xN c=true:=by
     cases hc:(iN s)[j]? with
     | none=>rw[hc]at B;cases B
     | some c=>rw[hc]at B;exact⟨c,rfl,B⟩
    obtain⟨cj,DH,Vz⟩:=M;have C1:=qS DH;exact⟨_,bM,j+1,rfl,rfl,bM,bM,iY.trans (Gd DH Vz),u⟩
   have azc:wo xN s j=j:=by
    by_cases hjs:j<s.size
    .obtain⟨cj,M⟩:∃c,(iN s)[j]?=some c:=⟨_,kO (by rw[eY];exact hjs)⟩;rw[M]at B;exact Ge M B
    .exact Kl bM
   have Wx:=Ir E J O U;rw[iY,azc]at Wx;exact⟨k,bM,j,rfl,hj,Wx,u⟩
  have V:=NU E J O (by exact_mod_cast U);subst V;exact⟨rfl,u.aF⟩
 have V:=Vy E bM;subst V;exact⟨rfl,u.aF⟩
def C208(s:ByteArray)(i:Nat)(c:UInt8)(w:World)(hz:s.size<=1000000)(hc:(iN s)[i]?=some c):CR 208 [.string s,hH (i:Int)] w (λv w'=>v=hH (qK s i c)/\Ext w w'):=by
 have hi:=qS hc;have u:=St.start w;refine py Tryz.func208 (pl:=av1) ?_;refine bD DG u iF rfl rfl (dR rfl) (λW J u=>?_);refine⟨λG x J=>∃k:Nat,x=hH (k:Int)/\G=DG.length-k/\k<=DG.length/\(∀y∈DG.take k,CM s i y=false)/\St w aZ [bH W DG] J,⟨_,0,rfl,rfl,la _,ee,u⟩,?_⟩;rintro G _ _ ⟨k,rfl,rfl,hk,E,u⟩ _;refine aH iF u.dS ?_;have Pp:DG.length=5:=rfl;refine aQ (aC (λxg=>?_) λxg=>?_)
 .obtain⟨Tf,I⟩:=gx DG (i:=(k:Int).toNat) bM;exact dM u iF bM bM (λ_ FL=>fZ u gB FL I (aV agF u (C254 s Tf (i:Int) _ hz (aff _ (kp I)) bM) λ_ _ u=>aY (λU=>⟨fM (ng .i64) (by unfold qK;rw[ej (ig I U)]),u.drop.aF⟩) λU=>aK bM ⟨_,bM,k+1,rfl,rfl,bM,dW E I U,u⟩))
 have u:=u.drop;refine⟨λG x J=>∃j:Nat,x=hH (j:Int)/\G=(ia #[40,41,123,125,59,44,61,60,33,43,45,42,47,37]).size-j/\j<=(ia #[40,41,123,125,59,44,61,60,33,43,45,42,47,37]).size/\(∀y∈(iN (ia #[40,41,123,125,59,44,61,60,33,43,45,42,47,37])).take j,decide ((y.toNat:Int)=c.toNat)=false)/\St w aZ [] J,⟨_,0,rfl,rfl,la _,ee,u⟩,?_⟩;rintro G _ _ ⟨j,rfl,rfl,hj,V,u⟩ _;refine fg iq ?_;have JN:(ia #[40,41,123,125,59,44,61,60,33,43,45,42,47,37]).size=14:=rfl;refine aQ (aC (λza=>?_) λza=>?_)
 .obtain⟨O,Q5⟩:∃Y,(iN (ia #[40,41,123,125,59,44,61,60,33,43,45,42,47,37]))[(j:Int).toNat]?=some Y:=⟨_,kO (by rw[eY];omega)⟩;refine jQ iq bM Q5 ?_;obtain⟨uV,pe⟩:∃Y,(iN s)[(i:Int).toNat]?=some Y:=⟨_,kO (by rw[eY];omega)⟩;refine jQ iq bM pe ?_;obtain rfl:=n4.inj (pe.symm.trans hc);refine nF (aC (λZ=>?_) λZ=>aK bM (have u:=u.drew;⟨_,bM,j+1,rfl,rfl,bM,dW V Q5 (ez Z),u⟩));have u:=u.drew;have B:DG.any (CM s i)=false:=iB (by rw[kE bM]at E;exact E)
  exact⟨fM (ng .i64) (by unfold qK;rw[ei (by rw[B];simp),ej (ig Q5 (ew Z))]),u.aF⟩
 have B:DG.any (CM s i)=false:=iB (by rw[kE bM]at E;exact E);have M:=iB (g:=λx:UInt8=>decide ((x.toNat:Int)=c.toNat)) (by rw[kE (by rw[eY];omega)]at V;exact V);exact⟨fM (ng .i64) (by unfold qK;rw[ei (by rw[B];simp),ei (by rw[M];simp)]),u.aF⟩
def C209(lv:Value)(l:List bR)(i:Int)(t:ByteArray)(w:World)(E:cZ (λ_=>True) w lv l)(hn:l.length<=1000000):CR 209 [lv,hH i,.string t] w (λv w'=>v=.bool (tM l i t)/\Ext w w'):=by
 have B:=St.start w;refine eZ Tryz.func209 ?_;refine⟨λI w'=>I=.bool (tM l i t)/\w=w',cQ (aC (λgJ=>aH fK (E.ext B.aF) (aQ (aC (λM=>?_) λM=>⟨vb (by unfold tM;first|(rw[u];grind)|(rw[ez bM];rfl)|(rw[mW bM];simp)),rfl⟩))) λgJ=>⟨vb (by unfold tM;first|(rw[u];grind)|(rw[ez bM];rfl)|(rw[mW bM];simp)),rfl⟩),?_⟩
 .obtain⟨G,u⟩:=gx l (i:=(i).toNat) bM;refine aN fK E bM u (λ_ sj=>bU G.text nz sj rfl rfl λ_ J=>aD gB (J.ext B.aF) (jB (aC (λZ=>?_) λZ=>⟨vb (by unfold tM;first|(rw[u];grind)|(rw[ez bM];rfl)|(rw[mW bM];simp)),rfl⟩)));refine aN fK E bM u (λ_ sn=>?_);exact bU G.kind lK sn rfl rfl (λ_ Fe=>aD bO (Fe.ext B.aF) (bV (aC (λY=>aN fK E bM u λ_ Ml=>bU G.kind lK Ml rfl rfl λ_ O=>aD bO (O.ext B.aF) (cQ (aC (λU=>aN fK E bM u λ_ W=>bU G.kind lK W rfl rfl λ_ V=>aD bO (V.ext B.aF) (gA ⟨vb (by unfold tM;first|(rw[u];grind)|(rw[ez bM];rfl)|(rw[mW bM];simp)),rfl⟩)) λU=>⟨vb (by unfold tM;first|(rw[u];grind)|(rw[ez bM];rfl)|(rw[mW bM];simp)),rfl⟩))) λY=>⟨vb (by unfold tM;first|(rw[u];grind)|(rw[ez bM];rfl)|(rw[mW bM];simp)),rfl⟩)))
 rintro _ _ ⟨rfl,hw⟩ _;subst hw;exact⟨rfl,B.aF⟩
def C214(lv:Value)(l:List bR)(i:Int)(w:World)(B:cZ (λ_=>True) w lv l)(hn:l.length<=1000000)(Z:∀x∈l,0<=x.at_/\x.at_<=1000000/\x.text.size<=1000000):CR 214 [lv,hH i] w (λv w'=>v=hH (nq l i)/\Ext w w'):=by
 have u:=St.start w;refine py Tryz.func214 (pl:=av4) ?_;refine⟨λjv w'=>jv=.bool (decide (0<=i/\i<l.length))/\w=w',cQ (aC (λ_=>aH fK (B.ext u.aF) (aQ ⟨yJ bM,rfl⟩)) λ_=>⟨Xd bM,rfl⟩),?_⟩;rintro _ _ ⟨rfl,hw⟩ _;subst hw;refine aC (λO=>?_) (λO=>aH fK (B.ext u.aF) (aG (aC (λU=>?_) λU=>?_)))
 .obtain⟨E1,M⟩:=gx l (i:=(i).toNat) bM;exact aN fK B bM M (λ_ uJ=>bU E1.at_ lL uJ rfl rfl λ_ Y=>aD bO (Y.ext u.aF) ⟨fM (ng .i64) (by unfold nq;rw[ej bM,M]),u.aF⟩)
 .have I:l=[]:=ta.1 bM;subst I;exact⟨fM (ng .i64) (by unfold nq;split<;>simp_all),u.aF⟩
 refine aH fK (B.ext u.aF) (fr bM ?_);obtain⟨G,E⟩:=gx l (i:=((l.length:Int)-1).toNat) bM;refine aN fK B bM E (λ_ FM=>bU G.at_ lL FM rfl rfl λ_ xi=>have u:=u.drew;aD bO (xi.ext u.aF) (aH fK (B.ext u.aF) (fr bM (aN fK B bM E λ_ xt=>bU G.text nz xt rfl rfl λ_ q8=>aD gB (q8.ext u.aF) (fg iq ?_)))));have V:=Z _ (kp E);refine aK bM ?_;have J:l.getLast? = some G:=by rw[List.getLast?_eq_getElem?,<- E];congr 1;omega
 have W:(if 0<=i then l[i.toNat]? else none)=none:=by split;exact mW bM;rfl
 exact⟨fM (ng .i64) (by unfold nq;rw[W,J]),u.aF⟩
def numOf(s:ByteArray)(a k:Nat):Int:=(((iN s).drop a).take (k-a)).foldl (λn c=>if n<=4294967296 then 10*n+((c.toNat:Int)-48)else n) 0
theorem TI(s:ByteArray)(a:Nat):numOf s a a=0:=by unfold numOf;grind
theorem Aa{s:ByteArray}{a k:Nat}{c:UInt8}(u:a<=k)(h:(iN s)[k]?=some c):numOf s a (k+1)=if numOf s a k<=4294967296 then 10*numOf s a k+((c.toNat:Int)-48)else numOf s a k:=by
 unfold numOf
 rw[show k+1-a=(k-a)+1 from bM,uT,IT,show a+(k-a)=k from bM,h,JD,EC]
 rfl
theorem afg{s:ByteArray}{a:Nat}:∀{k:Nat},a<=k->k<=s.size->(∀j c,a<=j->j<k->(iN s)[j]?=some c->48<=(c.toNat:Int)/\(c.toNat:Int)<=57)->0<=numOf s a k/\numOf s a k<=42949672969:=by
 intro k
 induction k with
 | zero=>
  grind[iN,numOf]
 | succ k u=>
  intro B E hd
  by_cases e:a=k+1
  .subst e;rw[TI];omega
  .have:=u bM bM λj c h1 h2=>hd j c h1 bM
   obtain⟨c,hc⟩:∃c,(iN s)[k]?=some c:=⟨_,kO (by rw[eY];omega)⟩
   have h2:=hd k c bM bM hc
   rw[Aa bM hc]
   omega
def mK(s:ByteArray):Nat->Nat->List bR->Option (List bR×Int×Int)
 | 0,_,_=>none
 | n+1,a,out=>match (iN s)[a]? with
  | none=>some (out,0,0)
  | some c=>
   if gE c.toNat=true then(if 16<wo sS s a-a then some ([],2,(a:Int))else(lz s (s.size+1) (wo sS s a)).bind λu=>mK s n u (out++[⟨1,s.extract a (wo sS s a),0,a⟩]))
   else if kj c.toNat=true then(if 4294967296<numOf s a (wo wq s a)then some ([],4,(a:Int))else(lz s (s.size+1) (wo wq s a)).bind λu=>mK s n u (out++[⟨2,s.extract a (wo wq s a),numOf s a (wo wq s a),a⟩]))
   else if qK s a c=0 then some ([],3,(a:Int))else(lz s (s.size+1) (a+(qK s a c).toNat)).bind λu=>mK s n u (out++[⟨3,s.extract a (a+(qK s a c).toNat),0,a⟩])
def vZ(s:ByteArray):Option (List bR×Int×Int):=if 4000<s.size then some ([],2,4000)else(lz s (s.size+1) 0).bind λa=>mK s (s.size+2) a []
theorem Q6{s:ByteArray}{n a:Nat}{out:List bR}{r:List bR×Int×Int}(h:mK s n a out=some r):∃k,n=k+1:=by
 cases n with
 | zero=>cases h
 | succ k=>grind
def yz(s:ByteArray)(k a:Nat)(out:List bR)(R:List bR×Int×Int)(B:Int)(e:Nat)(n:Int):Prop:=a<e/\e<=s.size/\∃u,lz s (s.size+1) e=some u/\mK s k u (out++[⟨B,s.extract a e,n,a⟩])=some R
section
variable {s:ByteArray}{k a:Nat}{c:UInt8}{out:List bR}{R:List bR×Int×Int}
theorem VA(h:mK s (k+1) a out=some R)(u:s.size<=a):R=(out,0,0):=by
 unfold mK at h;rw[mW (by rw[eY];exact u)]at h;grind
theorem Hb(h:mK s (k+1) a out=some R)(hc:(iN s)[a]?=some c)(u:gE c.toNat=true)(hb:16<wo sS s a-a):R=([],2,(a:Int)):=by
 unfold mK at h;grind
theorem CN{e:Nat}{B n:Int}(h:((lz s (s.size+1) e).bind λu=>mK s k u (out++[⟨B,s.extract a e,n,a⟩]))=some R)(h1:a<e)(h2:e<=s.size):yz s k a out R B e n:=by
 cases hp:lz s (s.size+1) e with
 | none=>grind
 | some u=>grind[yz]
theorem VB(h:mK s (k+1) a out=some R)(hc:(iN s)[a]?=some c)(B:gE c.toNat=true)(hb:¬ 16<wo sS s a-a)(u:a<wo sS s a):yz s k a out R 1 (wo sS s a) 0:=by
 unfold mK at h;rw[hc]at h;dsimp only at h;rw[ej B,ei hb]at h
 have:=qS hc;have h2:=Q4 (s:=s) (a:=a) sS
 exact CN h u bM
theorem Km(h:mK s (k+1) a out=some R)(hc:(iN s)[a]?=some c)(u:gE c.toNat=false)(hd:kj c.toNat=true)(hb:4294967296<numOf s a (wo wq s a)):R=([],4,(a:Int)):=by
 unfold mK at h;grind
theorem aaJ(h:mK s (k+1) a out=some R)(hc:(iN s)[a]?=some c)(B:gE c.toNat=false)(hd:kj c.toNat=true)(hb:¬ 4294967296<numOf s a (wo wq s a))(u:a<wo wq s a):yz s k a out R 2 (wo wq s a) (numOf s a (wo wq s a)):=by
 unfold mK at h;rw[hc]at h;dsimp only at h;rw[ei cJ,ej hd,ei hb]at h
 have:=qS hc;have h2:=Q4 (s:=s) (a:=a) wq
 exact CN h u bM
theorem VC(h:mK s (k+1) a out=some R)(hc:(iN s)[a]?=some c)(u:gE c.toNat=false)(hd:kj c.toNat=false)(hb:qK s a c=0):R=([],3,(a:Int)):=by
 unfold mK at h;grind
theorem aaK(s:ByteArray)(a:Nat)(c:UInt8):qK s a c=0\/qK s a c=1\/qK s a c=2:=by
 grind[qK]
theorem TJ{s:ByteArray}{a:Nat}{c:UInt8}(h:(iN s)[a]?=some c):(a:Int)+qK s a c<=s.size:=by
 have B:=qS h
 unfold qK
 split
 .rename_i h2
  rw[v7]at h2
  obtain⟨t,ht,hb⟩:=h2
  have:t.size=2:=by
   have u:∀t∈DG,t.size=2:=dC
   grind
  unfold CM at hb
  grind
 omega
theorem VD(h:mK s (k+1) a out=some R)(hc:(iN s)[a]?=some c)(u:gE c.toNat=false)(hd:kj c.toNat=false)(hb:¬ qK s a c=0):yz s k a out R 3 (a+(qK s a c).toNat) 0:=by
 unfold mK at h;rw[hc]at h;dsimp only at h;rw[ei cJ,ei cJ,ei hb]at h
 have h1:=aaK s a c;have h2:=TJ hc
 exact CN h bM bM
end
theorem C130(s:ByteArray)(R:List bR×Int×Int)(w:World)(UM:s.size<=1000000)(hr:vZ s=some R):CR 130 [.string s] w (λv w'=>∃o,v=.tuple #[o,hH R.2.1,hH R.2.2]/\kP (bH o R.1) w w'):=by
 have u:=St.start w;refine acV _ _ _ ?_;unfold S130;refine fg iq (cP (aC (λjw=>?_) λjw=>?_))
 .have Y:([],2,4000)=R:=by unfold vZ at hr;rw[ej bM]at hr;exact n4.inj hr
  subst Y;exact⟨_,rfl,u.eV.fresh⟩
 have h4:s.size<=4000:=bM
 obtain⟨a0,ha0,O0⟩:∃a0,lz s (s.size+1) 0=some a0/\mK s (s.size+2) a0 []=some R:=by
  unfold vZ at hr;rw[ei bM]at hr;cases hq:lz s (s.size+1) 0 with
  | none=>rw[hq]at hr;cases hr
  | some a0=>rw[hq]at hr;exact⟨a0,rfl,hr⟩
 have azd:=BC ha0 bM;refine bD ([]:List bR) u fK rfl rfl (dR rfl) (λs_x12 _ u=>aV agz u (C205 s 0 (s.size+1) a0 _ bM bM ha0) λ_ he u=>?_);refine⟨λmm o x w'=>∃(a:Nat) (out:List bR),x=hH (a:Int)/\a<=s.size/\out.length<=a/\mK s mm a out=some R/\St w aZ [bH o out] w',⟨_,a0,[],rfl,azd.2,la _,O0,u⟩,?_⟩;rintro mm yK _ _ ⟨a,out,rfl,ha,JN,hp,u⟩ _;obtain⟨k,rfl⟩:=Q6 hp;refine fg iq (aQ (aC (λlP=>pop (XP _) (aR u adq λVE _ u=>aJ (x:=(⟨0,(ia #[]),0,(a:Int)⟩:bR)) u agN rfl rfl λ_ u=>⟨λto w'=>∃(kd:Int) (e:Nat) (n:Int),to=hH (e:Int)/\yz s k a out R kd e n/\St w aZ [bY VE (hZ (⟨kd,ia #[],n,(a:Int)⟩:bR)),bH yK out] w',?_,?_⟩)) λlP=>?_))
 .obtain⟨iK,jM⟩:∃xx,(iN s)[(a:Int).toNat]?=some xx:=⟨_,kO (by rw[eY];omega)⟩;refine jQ iq bM jM ?_;have E:(iN s)[a]?=some iK:=jM;refine aV Sd u (C206 _ _) (λ_ he u=>aY (λjx=>?_) λjx=>?_)
  .have G:=jx;refine aA lK (aW u bO (dR rfl) (rfl) λ_ u=>?_);have u:=u.enc (cs':=hZ ({ (⟨0,(ia #[]),0,(a:Int)⟩:bR)with kind:=1}:bR)) rfl;have u:=u.p1.p1;refine⟨λmm x w'=>∃j:Nat,x=hH (j:Int)/\mm=s.size-j/\a<=j/\j<=s.size/\wo sS s a=wo sS s j/\St w aZ [bY VE (hZ (⟨1,ia #[],0,(a:Int)⟩:bR)),bH yK out] w',⟨_,a,rfl,rfl,o1 _,ha,rfl,u⟩,?_⟩;rintro mm _ _ ⟨j,rfl,rfl,U,hj,J,u⟩ _;refine⟨λjv w'=>jv=.bool (match (iN s)[j]? with|some c=>sS c|none=>false)/\St w aZ [bY VE (hZ (⟨1,ia #[],0,(a:Int)⟩:bR)),bH yK out] w',fg iq (aQ (aC (λri=>?_) λri=>⟨vb (by first|(rw[show(iN s)[j]?=some M from pe];show _=(gE M.toNat||kj M.toNat);rw[lr];rfl)|(rw[mW (by rw[eY];omega)])),u⟩)),?_⟩
   .obtain⟨M,pe⟩:∃xx,(iN s)[(j:Int).toNat]?=some xx:=⟨_,kO (by rw[eY];omega)⟩;refine jQ iq bM pe ?_;have hcj0:(iN s)[j]?=some M:=pe;exact aV Sd u (C206 _ _) (λ_ he u=>aY (λlr=>⟨vb (by first|(rw[show(iN s)[j]?=some M from pe];show _=(gE M.toNat||kj M.toNat);rw[lr];rfl)|(rw[mW (by rw[eY];omega)])),u⟩) λlr=>jQ iq bM pe (aV Se u (C207 _ _) λ_ he u=>⟨vb (by first|(rw[show(iN s)[j]?=some M from pe];show _=(gE M.toNat||kj M.toNat);rw[lr];rfl)|(rw[mW (by rw[eY];omega)])),u⟩))
   rintro _ _ ⟨rfl,u⟩ _;refine aY (λqD=>?_) (λqD=>?_)
   .refine aK bM ?_
    have Z:∃c,(iN s)[j]?=some c/\sS c=true:=by
     cases hc:(iN s)[j]? with
     | none=>rw[hc]at qD;cases qD
     | some c=>rw[hc]at qD;exact⟨c,rfl,qD⟩
    obtain⟨cj,O,Vz⟩:=Z;have C1:=qS O;exact⟨_,bM,j+1,rfl,rfl,bM,bM,J.trans (Gd O Vz),u⟩
   have W:wo sS s j=j:=by
    by_cases hjs:j<s.size
    .obtain⟨cj,Z⟩:∃c,(iN s)[j]?=some c:=⟨_,kO (by rw[eY];exact hjs)⟩;rw[Z]at qD;exact Ge Z qD
    .exact Kl bM
   refine fr bM (cP (aC (λxu=>?_) λxu=>?_))
   .have u:=u.drop.drop;have Y:=Hb hp E G (by rw[J,W];omega);subst Y;exact⟨_,rfl,u.eV.fresh⟩
   have u:=u.p1.p1
   have hgt:a<j:=by
    rcases P2 a j with h|h
    .exact h
    .obtain rfl:j=a:=bM
     rw[E]at qD;have h9:sS iK=false:=qD;unfold sS at h9;rw[G]at h9;cases h9
   have B:=VB hp E G (by rw[J,W];omega) (by rw[J,W];exact hgt);rw[J,W]at B;exact⟨1,j,0,rfl,B,u⟩
  have G:=jx;refine jQ iq bM jM (aV Se u (C207 _ _) λ_ he u=>aY (λC9=>?_) λC9=>?_)
  .have I:=C9;refine aA lK (aW u bO (dR rfl) (rfl) λ_ u=>?_);have u:=u.enc (cs':=hZ ({ (⟨0,(ia #[]),0,(a:Int)⟩:bR)with kind:=2}:bR)) rfl;have u:=u.p1.p1;refine⟨λmm x w'=>∃j:Nat,x=hH (j:Int)/\mm=s.size-j/\a<=j/\j<=s.size/\wo wq s a=wo wq s j/\(∀(i:Nat) (c:UInt8),a<=i->i<j->(iN s)[i]?=some c->48<=(c.toNat:Int)/\(c.toNat:Int)<=57)/\St w aZ [bY VE (hZ (⟨2,ia #[],(numOf s a j),(a:Int)⟩:bR)),bH yK out] w',⟨_,a,rfl,rfl,o1 _,ha,rfl,λ_ _ h1 _=>absurd h1 bM,by rw[TI];exact u⟩,?_⟩;rintro mm _ _ ⟨j,rfl,rfl,U,hj,J,hdg,u⟩ _
   refine⟨λjv w'=>jv=.bool (match (iN s)[j]? with|some c=>wq c|none=>false)/\St w aZ [bY VE (hZ (⟨2,ia #[],(numOf s a j),(a:Int)⟩:bR)),bH yK out] w',fg iq (aQ (aC (λHN=>?_) λHN=>⟨vb (by first|(rw[show(iN s)[j]?=some ahW from Q7];rfl)|(rw[mW (by rw[eY];omega)])),u⟩)),?_⟩
   .obtain⟨ahW,Q7⟩:∃xx,(iN s)[(j:Int).toNat]?=some xx:=⟨_,kO (by rw[eY];omega)⟩;exact jQ iq bM Q7 (aV Se u (C207 _ _) λ_ he u=>⟨vb (by first|(rw[show(iN s)[j]?=some ahW from Q7];rfl)|(rw[mW (by rw[eY];omega)])),u⟩)
   rintro _ _ ⟨rfl,u⟩ _;refine aY (λV=>?_) (λV=>?_)
   .have Z:∃c,(iN s)[j]?=some c/\wq c=true:=by
     cases hc:(iN s)[j]? with
     | none=>rw[hc]at V;cases V
     | some c=>rw[hc]at V;exact⟨c,rfl,V⟩
    obtain⟨cj,O,Vz⟩:=Z;have C1:=qS O;have hcd:=Vz;unfold wq kj at hcd;rw[decide_eq_true_eq]at hcd;have hnb:=afg U bM hdg;refine⟨λw'=>St w aZ [bY VE (hZ (⟨2,ia #[],(numOf s a (j+1)),(a:Int)⟩:bR)),bH yK out] w',aA r9 (aB (v:=hH (numOf s a j)) bO u.hb rfl (gA (aC (λwZ=>?_) λwZ=>?_))),?_⟩
    .refine aA r9 (have u:=u.drew;aB (v:=hH (numOf s a j)) bO u.hb rfl (DV bM ?_));obtain⟨asj,aaM⟩:∃xx,(iN s)[(j:Int).toNat]?=some xx:=⟨_,kO (by rw[eY];omega)⟩;refine jQ iq bM aaM ?_;obtain rfl:=n4.inj (aaM.symm.trans (show(iN s)[(j:Int).toNat]?=some cj from O));refine aak bM (Vn aww LH bM (aK bM (aA r9 (aW u bO (dR rfl) (rfl) λ_ u=>?_))));have u:=u.enc (cs':=hZ ({ (⟨2,ia #[],(numOf s a j),(a:Int)⟩:bR)with n:=((10*(numOf s a j))+((asj.toNat:Int)-48))}:bR)) rfl
     have u:=u.p1.p1;rw[Aa U O,ej wZ];exact u
    .have u:=u.p1.p1;rw[Aa U O,ei wZ];exact u
    intro _ u _;refine aK bM ?_
    exact⟨_,bM,j+1,rfl,rfl,bM,bM,J.trans (Gd O Vz),λi c h1 h2 h3=>by
     by_cases e:i=j
     .subst e;obtain rfl:=n4.inj (h3.symm.trans O);omega
     .exact hdg i c h1 bM h3,u⟩
   have W:wo wq s j=j:=by
    by_cases hjs:j<s.size
    .obtain⟨cj,Z⟩:∃c,(iN s)[j]?=some c:=⟨_,kO (by rw[eY];exact hjs)⟩;rw[Z]at V;exact Ge Z V
    .exact Kl bM
   refine aA r9 (aB (v:=hH (numOf s a j)) bO u.hb rfl (cP (aC (λag9=>?_) λag9=>?_)))
   .have u:=u.drop.drop;have Y:=Km hp E G I (by rw[J,W];omega);subst Y;exact⟨_,rfl,u.eV.fresh⟩
   have u:=u.p1.p1
   have hgt:a<j:=by
    rcases P2 a j with h|h
    .exact h
    .obtain rfl:j=a:=bM
     rw[E]at V;have h9:wq iK=false:=V;unfold wq at h9;rw[I]at h9;cases h9
   have B:=aaJ hp E G I (by rw[J,W];omega) (by rw[J,W];exact hgt);rw[J,W]at B;exact⟨2,j,_,rfl,B,u⟩
  have I:=C9;have hsb:=aaK s a iK;have hsi:=TJ E;refine aA lK (aW u bO (dR rfl) (rfl) λ_ u=>have u:=u.enc (cs':=hZ ({ (⟨0,(ia #[]),0,(a:Int)⟩:bR)with kind:=3}:bR)) rfl;aV anV u (C208 s a iK _ UM E) λ_ he u=>aK bM (aG (aC (λasl=>?_) λasl=>?_)))
  .have u:=u.drop.drop;have Y:=VC hp E G I bM;subst Y;exact⟨_,rfl,u.eV.fresh⟩
  have u:=u.p1.p1;have B:=VD hp E G I bM;exact⟨3,a+(qK s a iK).toNat,0,by congr 1;omega,B,u⟩
 .rintro _ _ ⟨kd,e,n,rfl,B,u⟩ _;have aze:=B;obtain⟨h1e0,h2e0,_⟩:=aze;refine Ma iq bM bM bM (aA nz (aW u gB (dR rfl) (rfl) λ_ u=>have u:=u.enc (cs':=hZ ({ (⟨kd,ia #[],n,(a:Int)⟩:bR)with text:=(s.extract (a:Int).toNat (e:Int).toNat)}:bR)) rfl;aD agN u.At (bD ([(⟨kd,s.extract (a:Int).toNat (e:Int).toNat,n,(a:Int)⟩:bR)]) u fK rfl rfl (dR rfl) λakI _ u=>?_)));have afh:=u.dS;refine bL u.p2 fK afh (by simp;omega) dC (λakJ _ u=>?_);have u:=u.p1.drop;obtain⟨h1e,h2e,a2,ha2,Wx⟩:=B
  have azf:=BC ha2 h2e;exact aV agz u (C205 s e (s.size+1) a2 _ bM bM ha2) (λ_ _ u=>have u:=u.p1.drop;⟨k,bM,a2,_,rfl,azf.2,by simp;omega,Wx,u⟩)
 have Y:=VA hp bM;subst Y;exact⟨_,rfl,u.fresh⟩
structure fL where
 l:(List bZ)
 to:Int
 e:Int
 at_:Int
deriving DecidableEq
structure dX where
 l:SV
 to:Int
 e:Int
 at_:Int
instance:Flat dX where
 agg:=true
 sz:=4
 enc e:=[.slice e.l.a e.l.n e.l.cap,hH e.to,hH e.e,hH e.at_]
 val e:=.agg [.slice e.l.a e.l.n e.l.cap,hH e.to,hH e.e,hH e.at_].toArray
 pos:=dC
 len _:=rfl
 one a v h:=by grind[wF]
 nV _ _:=rfl
 nW h:=by cases h
instance:Deep fL dX where
 dr w s x:=∃(u:SV),s=(⟨u,x.to,x.e,x.at_⟩:dX)/\DL w (hM u) x.l
 ext h e:=by
  obtain⟨E,rfl,B⟩:=h
  exact⟨E,rfl,B.ext e⟩
def lE{w:World}{u:dX}{x:fL}(h:mv w u x):DL w (hM u.l) x.l:=by obtain⟨_,rfl,h⟩:=h;exact h
def qT(n:Int):List Int:=if n=0 then [15]else if n=1 then [14]else if n=2 then [10,11,12,13]else if n=3 then [5,6]else [7,8,9]
def Eg:List ByteArray:=[⟨#[]⟩,⟨#[]⟩,⟨#[]⟩,⟨#[45]⟩,⟨#[33]⟩,⟨#[43]⟩,⟨#[45]⟩,⟨#[42]⟩,⟨#[47]⟩,⟨#[37]⟩,⟨#[61,61]⟩,⟨#[33,61]⟩,⟨#[60]⟩,⟨#[60,61]⟩,⟨#[38,38]⟩,⟨#[124,124]⟩]
def NV(k:Int):ByteArray:=(Eg[k.toNat]?).getD ⟨#[]⟩
def gw(l:List bR)(i e:Int):fL:=⟨[],0,if (l.length:Int)<=i then 6 else e,nq l i⟩
abbrev asm(r:fL)(w:World):=tc λv w'=>∃u:dX,v=hM u/\kP (eA λw=>mv w u r) w w'
def akK(l:List bR)(rec:Int->Int->Int->Option fL):Prop:=∀(lv:Value) (i d n:Int) (r:fL) (w:World),cZ (λ_=>True) w lv l->rec i d n=some r->0<=i/\i<=l.length->0<=d/\d<=12->0<=n/\n<=5->
 Calls g6 258 [lv,hH i,hH d,hH n].toArray w (asm r w)/\(n=5->Calls g6 294 [lv,hH i,hH d].toArray w (asm r w))
structure jh(l:List bR):Prop where
 n:l.length<=5000
 at_:∀x∈l,0<=x.at_/\x.at_<=1000000/\x.text.size<=1000000
def VF(l:List bR)(i:Int):Bool:=tM l i ⟨#[33]⟩||tM l i ⟨#[45]⟩
def po(rec:Int->Int->Int->Option fL)(l:List bR)(i d:Int):Option fL:=
 match (if (l.length:Int)<=i then none else l[i.toNat]?)with
 | none=>some (gw l i 6)
 | some t=>if ((VF l i||tM l i ⟨#[40]⟩)&&decide (d=12))=true then some (gw l i 7)
  else if VF l i=true then(rec (i+1) (d+1) 5).bind λx=>if x.l.length<=10000 then some (if x.e≠0 then x else {x with l:=[⟨if t.text=⟨#[45]⟩then 3 else 4,0,⟨#[]⟩,t.at_⟩]++x.l})else none
  else if tM l i ⟨#[40]⟩=true then(rec (i+1) (d+1) 0).bind λx=>some (if x.e≠0 then x else if tM l x.to ⟨#[41]⟩=true then {x with to:=x.to+1}else gw l x.to 5)
  else if t.kind=2 then some ⟨[⟨1,t.n,⟨#[]⟩,t.at_⟩],i+1,0,0⟩
  else if (decide (t.kind=1)&&gQ t.text)=true then some ⟨[⟨2,0,t.text,t.at_⟩],i+1,0,0⟩
  else some (gw l i 5)
def Gf(l:List bR)(to n:Int)(k:Nat):Int:=((qT n).take k).foldl (λop f=>if tM l to (NV f)=true then f else op) 0
def Kn(l:List bR)(to n:Int):Int:=Gf l to n (qT n).length
theorem Is{l:List bR}{to n:Int}{k:Nat}{f:Int}(h:(qT n)[k]?=some f):Gf l to n (k+1)=if tM l to (NV f)=true then f else Gf l to n k:=by
 unfold Gf;rw[uT,h,JD,EC];rfl
def v8(rec:Int->Int->Int->Option fL)(l:List bR)(d n:Int):Nat->fL->Option fL
 | 0,_=>none
 | k+1,x=>if x.e≠0 then some x else if Kn l x.to n=0 then some x else match (if 0<=x.to then l[x.to.toNat]? else none)with
  | none=>none
  | some t=>match rec (x.to+1) d (n+1)with
   | none=>none
   | some y=>if y.e≠0 then some y else if x.l.length+y.l.length<=10000 then
     (if n=2 then some ⟨[⟨Kn l x.to n,0,⟨#[]⟩,t.at_⟩]++x.l++y.l,y.to,0,0⟩else v8 rec l d n k ⟨[⟨Kn l x.to n,0,⟨#[]⟩,t.at_⟩]++x.l++y.l,y.to,0,0⟩)else none
def It(l:List bR):Nat->Int->Int->Int->Option fL
 | 0,_,_,_=>none
 | k+1,i,d,n=>if n=5 then po (It l k) l i d else(It l k i d (n+1)).bind (v8 (It l k) l d n k)
def aaN{n:Int}{k:Nat}{f:Int}(h:(qT n)[k]?=some f):5<=f/\f<=15:=by
 have u:=kp h
 unfold qT at u
 grind
section
variable {rec:Int->Int->Int->Option fL}{l:List bR}{i d n:Int}{r x y:fL}{t:bR}{k:Nat}
theorem Q8(h:po rec l i d=some r)(u:(l.length:Int)<=i):r=gw l i 6:=by
 unfold po at h;grind
theorem NW(h:po rec l i d=some r)(u:¬ (l.length:Int)<=i)(ht:l[i.toNat]?=some t)(hd:((VF l i||tM l i ⟨#[40]⟩)&&decide (d=12))=true):r=gw l i 7:=by
 unfold po at h;grind
theorem VG(h:po rec l i d=some r)(B:¬ (l.length:Int)<=i)(ht:l[i.toNat]?=some t)(hd:((VF l i||tM l i ⟨#[40]⟩)&&decide (d=12))=false)(u:VF l i=true) :
  ∃x,rec (i+1) (d+1) 5=some x/\x.l.length<=10000/\r=if x.e≠0 then x else {x with l:=[⟨if t.text=⟨#[45]⟩then 3 else 4,0,⟨#[]⟩,t.at_⟩]++x.l}:=by
 unfold po at h;rw[ei B,ht]at h;dsimp only at h;rw[ei cJ,ej u]at h
 cases hr:rec (i+1) (d+1) 5 with
 | none=>grind
 | some x=>
  grind
theorem NX(h:po rec l i d=some r)(B:¬ (l.length:Int)<=i)(ht:l[i.toNat]?=some t)(hd:((VF l i||tM l i ⟨#[40]⟩)&&decide (d=12))=false)(E:VF l i=false)(u:tM l i ⟨#[40]⟩=true) :
  ∃x,rec (i+1) (d+1) 0=some x/\r=if x.e≠0 then x else if tM l x.to ⟨#[41]⟩=true then {x with to:=x.to+1}else gw l x.to 5:=by
 unfold po at h;rw[ei B,ht]at h;dsimp only at h;rw[ei cJ,ei cJ,ej u]at h
 cases hr:rec (i+1) (d+1) 0 with
 | none=>grind
 | some x=>grind
theorem NY(h:po rec l i d=some r)(E:¬ (l.length:Int)<=i)(ht:l[i.toNat]?=some t)(hd:((VF l i||tM l i ⟨#[40]⟩)&&decide (d=12))=false)(B:VF l i=false)(u:tM l i ⟨#[40]⟩=false) :
  r=if t.kind=2 then⟨[⟨1,t.n,⟨#[]⟩,t.at_⟩],i+1,0,0⟩else if (decide (t.kind=1)&&gQ t.text)=true then⟨[⟨2,0,t.text,t.at_⟩],i+1,0,0⟩else gw l i 5:=by
 unfold po at h;grind
theorem Q9(h:v8 rec l d n k x=some r):∃j,k=j+1:=by
 cases k with
 | zero=>cases h
 | succ j=>grind
theorem afi(h:v8 rec l d n (k+1) x=some r)(u:x.e≠0):r=x:=by
 unfold v8 at h;grind
theorem aaO(h:v8 rec l d n (k+1) x=some r)(u:¬ x.e≠0)(B:Kn l x.to n=0):r=x:=by
 unfold v8 at h;grind
theorem aaP(h:v8 rec l d n (k+1) x=some r)(B:¬ x.e≠0)(u:¬ Kn l x.to n=0):∃t y,0<=x.to/\l[x.to.toNat]?=some t/\rec (x.to+1) d (n+1)=some y/\(y.e≠0->r=y)/\
  (¬ y.e≠0->x.l.length+y.l.length<=10000/\(n=2->r=⟨[⟨Kn l x.to n,0,⟨#[]⟩,t.at_⟩]++x.l++y.l,y.to,0,0⟩)/\(¬ n=2->v8 rec l d n k ⟨[⟨Kn l x.to n,0,⟨#[]⟩,t.at_⟩]++x.l++y.l,y.to,0,0⟩=some r)):=by
 unfold v8 at h;grind
theorem ahX(h:It l (k+1) i d 5=some r):po (It l k) l i d=some r:=by grind[po,It]
theorem asn(h:It l (k+1) i d n=some r)(u:¬ n=5):∃x,It l k i d (n+1)=some x/\v8 (It l k) l d n k x=some r:=by
 unfold It at h;rw[ei u]at h
 cases hx:It l k i d (n+1)with
 | none=>grind
 | some x=>grind
end
def v9(l:List bR)(i:Int):Option (List bZ×Int×Int×Int):=if i<0 then some ([],0,1,0)else(It l 10000 i 0 0).bind λx=>
 if x.e≠0 then some ([],0,x.e,x.at_)else match zK x.l,l[i.toNat]? with
  | some t,some k=>if x.l.length<=10000 then(if 12<t.depth then some ([],0,7,k.at_)else if 40<x.l.length then some ([],0,2,k.at_)else some (x.l,x.to,0,0))else none
  | _,_=>none
def Ra(n:Int):(qT n).length<=4:=by
 grind[qT]
def C295(n:Int)(w:World)(hn:0<=n/\n<=4):CR 295 [hH n] w (λv w'=>kP (bH v (qT n)) w w'):=by
 have u:=St.start w;refine eZ Tryz.func295 ?_;refine bD ([15]:List Int) u cR rfl rfl (dR rfl) (λU _ u=>bD ([14]:List Int) u cR rfl rfl (dR rfl) λZ _ u=>bD ([10,11,12,13]:List Int) u cR rfl rfl (dR rfl) λPK _ u=>bD ([5,6]:List Int) u cR rfl rfl (dR rfl) λV _ u=>bD ([7,8,9]:List Int) u cR rfl rfl (dR rfl) λW _ u=>?_);obtain⟨I,rfl⟩:=u.p4.fV;obtain⟨G,rfl⟩:=u.p3.fV;obtain⟨M,rfl⟩:=u.p2.fV;obtain⟨J,rfl⟩:=u.p1.fV;obtain⟨O,rfl⟩:=u.fV;refine bD ([I,G,M,J,O]) u m4 rfl rfl (dR rfl) (λY _ u=>?_)
 have u:=(((((((((((u.adv (α:=Int)).p6).p1).ER).p5).p1).ER).p4).p1).ER).p3).p1;have u:=u.ER.p2.p1.ER;obtain rfl|rfl|rfl|rfl|rfl:n=0\/n=1\/n=2\/n=3\/n=4:=bM
 .have E:=u.AU;exact dM u.p1 m4 dC ee (λ_ B=>fZ u.p1 eO B (show _=some I from rfl) (have u:=u.split;u.fresh))
 .have E:=u.AU;exact dM u.p1 m4 dC ee (λ_ B=>fZ u.p1 eO B (show _=some G from rfl) (have u:=u.split.drop.split;u.fresh))
 .have E:=u.AU;exact dM u.p1 m4 dC ee (λ_ B=>fZ u.p1 eO B (show _=some M from rfl) (have u:=u.split.drop.split.drop.split;u.fresh))
 .have E:=u.AU;exact dM u.p1 m4 dC ee (λ_ B=>fZ u.p1 eO B (show _=some J from rfl) (have u:=u.split.drop.split.drop.split.drop.split;u.fresh))
 have E:=u.AU;exact dM u.p1 m4 dC ee (λ_ B=>fZ u.p1 eO B (show _=some O from rfl) (have u:=u.split.drop.split.drop.split.drop.split.drop.split;u.fresh))
def C296(k:Int)(w:World)(M:0<=k/\k<=15):CR 296 [hH k] w (λv w'=>v=.string (NV k)/\Ext w w'):=by
 have u:=St.start w;refine eZ Tryz.func296 ?_;refine bD Eg u iF rfl rfl (dR rfl) (λI _ u=>?_);have J:Eg.length=16:=rfl;obtain⟨G,E⟩:=gx Eg (i:=k.toNat) bM;refine dM u iF bM bM (λ_ B=>fZ u gB B E ?_);refine⟨?_,u.drop.aF⟩;unfold NV;rw[E];rfl
def C320(lv:Value)(l:List bR)(i e:Int)(w:World)(B:cZ (λ_=>True) w lv l)(E:jh l):CR 320 [lv,hH i,hH e] w (λv w'=>∃sh:dX,v=hM sh/\kP (eA λw=>mv w sh (gw l i e)) w w'):=by
 have U:=E.n;have J:l.length<=1000000:=bM
 have I:=E.at_;have u:=St.start w;refine ade _ _ _ _ _ ?_;unfold S320;refine aR u tF (λV M u=>have u:=u.enc (cs':=hZ (⟨bW,0,0,0⟩:dX)) rfl;⟨λO w'=>O=hH (if (l.length:Int)<=i then 6 else e)/\M=w',aH fK (B.ext u.aF) (cQ (aC (λ_=>⟨by rw[ej bM],rfl⟩) λ_=>⟨by rw[ei bM],rfl⟩)),?_⟩);rintro _ _ ⟨rfl,G⟩ _;subst G;exact aV Hq u (C214 _ l i _ (B.ext u.aF) J I) (λ_ _ u=>pop (Py _ _) (aJ (x:=(⟨bW,0,(if (l.length:Int)<=i then 6 else e),(nq l i)⟩:dX)) u fX rfl rfl λ_ u=>aD fX u.At (have u:=u.fH (Φ:=(λw=>mv w (⟨bW,0,(if (l.length:Int)<=i then 6 else e),(nq l i)⟩:dX) (⟨[],0,(if (l.length:Int)<=i then 6 else e),(nq l i)⟩:fL))) (λ_=>⟨_,rfl,DL.nil _⟩);have u:=u.p1.drop;⟨_,rfl,u.fresh⟩)))
def C294(l:List bR)(rec:Int->Int->Int->Option fL)(lv:Value)(i d:Int)(r:fL)(w:World)(E:cZ (λ_=>True) w lv l)(Z:jh l)(HR:akK l rec)(h0:0<=i/\i<=l.length)(hd:0<=d/\d<=12)(hr:po rec l i d=some r):CR 294 [lv,hH i,hH d] w (λv w'=>∃sh:dX,v=hM sh/\kP (eA λw=>mv w sh r) w w'):=by
 have D9:=Z.n;have hn:l.length<=1000000:=bM
 have sB:=Z.at_;have u:=St.start w;refine ac8 _ _ _ _ _ ?_;unfold S294;refine aR u tF (λQS _ u=>have u:=u.enc (cs':=hZ (⟨bW,0,0,0⟩:dX)) rfl;aH fK (E.ext u.aF) (cQ (aC (λep=>?_) λep=>?_)))
 .refine dO Sk (C320 _ l i 6 _ (E.ext u.aF) Z) ?_;rintro _ _ ⟨akN,rfl,O⟩;have u:=u.made O;obtain⟨BD,Rb,_⟩:=u.eA;subst Rb;refine aJ (x:=(⟨BD,(gw l i 6).to,(gw l i 6).e,(gw l i 6).at_⟩:dX)) u.p1 fX rfl rfl (λ_ u=>aD fX u.At ?_);have I:r=(⟨(gw l i 6).l,(gw l i 6).to,(gw l i 6).e,(gw l i 6).at_⟩:fL):=Q8 hr bM;rw[I];have u:=u.p1.dF (Ψ:=(λw=>mv w (⟨BD,(gw l i 6).to,(gw l i 6).e,(gw l i 6).at_⟩:dX) (⟨(gw l i 6).l,(gw l i 6).to,(gw l i 6).e,(gw l i 6).at_⟩:fL))) (λ_ h=>⟨_,rfl,lE h⟩)
  have u:=u.p1.drop;exact⟨_,rfl,u.fresh⟩
 obtain⟨t,ht⟩:=gx l (i:=i.toNat) bM;have hta:=sB t (kp ht);refine⟨λV w'=>V=.bool (VF l i)/\St w aZ [bY QS (hZ (⟨bW,0,0,0⟩:dX))] w',aV vP u (C209 _ l i (ia #[33]) _ (E.ext u.aF) hn) (λ_ _ u=>aY (λiw=>⟨vb (by unfold VF;rw[iw];rfl),u⟩) λiw=>aV vP u (C209 _ l i (ia #[45]) _ (E.ext u.aF) hn) λ_ _ u=>⟨vb (by unfold VF;rw[iw];rfl),u⟩),?_⟩;rintro _ _ ⟨rfl,u⟩ _;refine aV vP u (C209 _ l i (ia #[40]) _ (E.ext u.aF) hn) (λ_ he u=>⟨λV w'=>V=.bool ((VF l i||tM l i (ia #[40]))&&decide (d=12))/\St w aZ [bY QS (hZ (⟨bW,0,0,0⟩:dX))] w',aY (λG=>aG ⟨vb (by first|(rw[G];simp;done)|(rw[G,M];simp;done)|(rw[G];rfl)|(rw[G,M];rfl)),u⟩) (λG=>aY (λM=>aG ⟨vb (by first|(rw[G];simp;done)|(rw[G,M];simp;done)|(rw[G];rfl)|(rw[G,M];rfl)),u⟩) λM=>⟨vb (by first|(rw[G];simp;done)|(rw[G,M];simp;done)|(rw[G];rfl)|(rw[G,M];rfl)),u⟩),?_⟩)
 rintro _ _ ⟨rfl,u⟩ _;refine aY (λU=>?_) (λU=>aY (λG=>?_) λG=>aY (λM=>?_) λM=>?_)
 .refine dO Sk (C320 _ l i 7 _ (E.ext u.aF) Z) ?_;rintro _ _ ⟨azh,rfl,O⟩;have u:=u.made O;obtain⟨TO,akO,_⟩:=u.eA;subst akO;refine aJ (x:=(⟨TO,(gw l i 7).to,(gw l i 7).e,(gw l i 7).at_⟩:dX)) u.p1 fX rfl rfl (λ_ u=>aD fX u.At ?_);have I:r=(⟨(gw l i 7).l,(gw l i 7).to,(gw l i 7).e,(gw l i 7).at_⟩:fL):=NW hr bM ht U;rw[I];have u:=u.p1.dF (Ψ:=(λw=>mv w (⟨TO,(gw l i 7).to,(gw l i 7).e,(gw l i 7).at_⟩:dX) (⟨(gw l i 7).l,(gw l i 7).to,(gw l i 7).e,(gw l i 7).at_⟩:fL))) (λ_ h=>⟨_,rfl,lE h⟩)
  have u:=u.p1.drop;exact⟨_,rfl,u.fresh⟩
 .refine aK bM (aK bM ?_);have azi:¬ d=12:=λh=>by rw[G,ew h]at U;cases U
  obtain⟨B,W,hxl,J⟩:=VG hr bM ht U G;refine dO agJ ((HR _ (i+1) (d+1) 5 B _ (E.ext u.aF) W bM bM bM).2 rfl) ?_;rintro _ _ ⟨azj,rfl,O⟩;have u:=u.made O;obtain⟨Eh,akP,_⟩:=u.eA;subst akP;refine aR u tF (λCm _ u=>have u:=u.enc (cs':=hZ (⟨bW,0,0,0⟩:dX)) rfl;aJ (x:=(⟨Eh,B.to,B.e,B.at_⟩:dX)) u fX rfl rfl λw13 u=>aA uF (aB (v:=hH B.e) jG u.hb rfl (bV (aC (λxf=>?_) λxf=>⟨λV w'=>V=hH (if t.text=ia #[45]then 3 else 4)/\w13=w',aN fK (E.ext u.aF) bM ht (λ_ A5=>bU t.text nz A5 rfl rfl λ_ Nv=>aD gB Nv (jB (aC (λHN=>⟨by rw[ej HN],rfl⟩) λHN=>⟨by rw[ei HN],rfl⟩))),?_⟩))))
  .refine aD fX u.At (aJ (x:=(⟨Eh,B.to,B.e,B.at_⟩:dX)) u.p2 fX rfl rfl λ_ u=>aD fX u.At ?_);have I:r=(⟨B.l,B.to,B.e,B.at_⟩:fL):=J.trans (ej xf);rw[I];have u:=u.p2.dF (Ψ:=(λw=>mv w (⟨Eh,B.to,B.e,B.at_⟩:dX) (⟨B.l,B.to,B.e,B.at_⟩:fL))) (λ_ h=>⟨_,rfl,lE h⟩);have u:=u.p1.drop.p1.drop;exact⟨_,rfl,u.fresh⟩
  rintro _ _ ⟨rfl,hw⟩ _;subst hw;obtain⟨op,ahY⟩:∃op,op=(if t.text=ia #[45]then(3:Int)else 4):=⟨_,rfl⟩;rw[<- ahY];refine aN fK (E.ext u.aF) bM ht (λ_ FN=>bU t.at_ lL FN rfl rfl λ_ Ms=>aD bO Ms (pop (EL _ _) (bD ([(⟨op,0,(ia #[]),t.at_⟩:bZ)]) u g9 rfl rfl (dR rfl) λs_x66 _ u=>aA sd (aB (v:=hM (Eh:SV)) jH u.p1.hb rfl ?_))));have akQ:=(DL.flat (lE u.p2.eA));refine bL u g9 akQ (by simp;omega) dC (λahK _ u=>aA sd ?_);obtain⟨Rc,rfl⟩:=u.fV;refine aW u.p1 jH (dR rfl) (rfl) (λ_ u=>have u:=u.enc (cs':=hZ (⟨Rc,B.to,B.e,B.at_⟩:dX)) rfl;aD fX u.At (aJ (x:=(⟨Rc,B.to,B.e,B.at_⟩:dX)) u.p3 fX rfl rfl λ_ u=>aD fX u.At ?_))
  have I:r=(⟨([(⟨op,0,(ia #[]),t.at_⟩:bZ)]++B.l),B.to,B.e,B.at_⟩:fL):=by rw[J,ei xf,<- ahY]
  rw[I];have u:=u.p2.freeze.dF (Ψ:=(λw=>mv w (⟨Rc,B.to,B.e,B.at_⟩:dX) (⟨([(⟨op,0,(ia #[]),t.at_⟩:bZ)]++B.l),B.to,B.e,B.at_⟩:fL))) (λ_ h=>⟨_,rfl,DL.jV h⟩);have u:=u.p1.drop.p1.drop.p1.drop;exact⟨_,rfl,u.fresh⟩
 .refine aK bM (aK bM ?_);have azi:¬ d=12:=λh=>by rw[G,M,ew h]at U;cases U
  obtain⟨B,W,J⟩:=NX hr bM ht U G M;refine dO Sh ((HR _ (i+1) (d+1) 0 B _ (E.ext u.aF) W bM bM bM).1) ?_;rintro _ _ ⟨azk,rfl,O⟩;have u:=u.made O;obtain⟨Y,akR,_⟩:=u.eA;subst akR;refine aR u tF (λX3 _ u=>have u:=u.enc (cs':=hZ (⟨bW,0,0,0⟩:dX)) rfl;aJ (x:=(⟨Y,B.to,B.e,B.at_⟩:dX)) u fX rfl rfl λ_ u=>aA uF (aB (v:=hH B.e) jG u.hb rfl (bV (aC (λTP=>?_) λTP=>aA oX (aB (v:=hH B.to) bO u.hb rfl (aV vP u (C209 _ l B.to (ia #[41]) _ (E.ext u.aF) hn) λ_ he u=>bQ (aY (λTQ=>?_) λTQ=>?_)))))))
  .refine aD fX u.At (aJ (x:=(⟨Y,B.to,B.e,B.at_⟩:dX)) u.p2 fX rfl rfl λ_ u=>aD fX u.At ?_);have I:r=(⟨B.l,B.to,B.e,B.at_⟩:fL):=J.trans (ej TP);rw[I];have u:=u.p2.dF (Ψ:=(λw=>mv w (⟨Y,B.to,B.e,B.at_⟩:dX) (⟨B.l,B.to,B.e,B.at_⟩:fL))) (λ_ h=>⟨_,rfl,lE h⟩);have u:=u.p1.drop.p1.drop;exact⟨_,rfl,u.fresh⟩
  .refine aA oX (aB (v:=hH B.to) bO u.hb rfl (dO Sk (C320 _ l B.to 5 _ (E.ext u.aF) Z) ?_));rintro _ _ ⟨azl,rfl,O⟩;have u:=u.made O;obtain⟨TR,akS,_⟩:=u.eA;subst akS;refine aJ (x:=(⟨TR,(gw l B.to 5).to,(gw l B.to 5).e,(gw l B.to 5).at_⟩:dX)) u.p3 fX rfl rfl (λ_ u=>aD fX u.At ?_);have I:r=(⟨(gw l B.to 5).l,(gw l B.to 5).to,(gw l B.to 5).e,(gw l B.to 5).at_⟩:fL):=J.trans ((ei TP).trans (ei (by simpa using TQ)));rw[I];have u:=u.p1.dF (Ψ:=(λw=>mv w (⟨TR,(gw l B.to 5).to,(gw l B.to 5).e,(gw l B.to 5).at_⟩:dX) (⟨(gw l B.to 5).l,(gw l B.to 5).to,(gw l B.to 5).e,(gw l B.to 5).at_⟩:fL))) (λ_ h=>⟨_,rfl,lE h⟩)
   have u:=u.p1.drop.p1.drop.p1.drop;exact⟨_,rfl,u.fresh⟩
  refine aA oX (aB (v:=hH B.to) bO u.hb rfl ?_);have rU:=sT (l:=l) (i:=B.to) (t:=ia #[41]) (by simpa using TQ);refine aK bM (aA oX (aW u bO (dR rfl) (rfl) λ_ u=>have u:=u.enc (cs':=hZ (⟨Y,(B.to+1),B.e,B.at_⟩:dX)) rfl;aD fX u.At (aJ (x:=(⟨Y,(B.to+1),B.e,B.at_⟩:dX)) u.p2 fX rfl rfl λ_ u=>aD fX u.At ?_)));have I:r=(⟨B.l,(B.to+1),B.e,B.at_⟩:fL):=J.trans ((ei TP).trans (ej (by simpa using TQ)));rw[I];have u:=u.p2.dF (Ψ:=(λw=>mv w (⟨Y,(B.to+1),B.e,B.at_⟩:dX) (⟨B.l,(B.to+1),B.e,B.at_⟩:fL))) (λ_ h=>⟨_,rfl,lE h⟩)
  have u:=u.p1.drop.p1.drop;exact⟨_,rfl,u.fresh⟩
 have Y8:=NY hr bM ht U G M;refine aN fK (E.ext u.aF) bM ht (λ_ akT=>bU t.kind lK akT rfl rfl λ_ akU=>aD bO akU (aG (aC (λKo=>?_) λKo=>⟨λV w'=>V=.bool (decide (t.kind=1)&&gQ t.text)/\St w aZ [bY QS (hZ (⟨bW,0,0,0⟩:dX))] w',aN fK (E.ext u.aF) bM ht (λ_ akV=>bU t.kind lK akV rfl rfl λ_ akW=>aD bO akW (aG (aC (λzT=>aN fK (E.ext u.aF) bM ht λ_ akX=>bU t.text nz akX rfl rfl λ_ akY=>aD gB akY (aV uy u (C211 _ _ bM) λ_ _ u=>⟨vb (by rw[ew zT];rfl),u⟩)) λzT=>⟨vb (by rw[ez zT];rfl),u⟩))),?_⟩)))
 .refine aN fK (E.ext u.aF) bM ht (λ_ akZ=>bU t.n r9 akZ rfl rfl λ_ ak0=>have u:=u.drew;aD bO ak0 (aN fK (E.ext u.aF) bM ht λ_ ak1=>bU t.at_ lL ak1 rfl rfl λ_ Qn=>aD bO Qn (pop (Jw _ _ _) (aK bM (bD ([(⟨1,t.n,(ia #[]),t.at_⟩:bZ)]) u g9 rfl rfl (dR rfl) λazm _ u=>?_)))));obtain⟨TS,rfl⟩:=u.fV;refine pop (zD _ _ _ _) (aJ (x:=(⟨TS,(i+1),0,0⟩:dX)) u.p1 fX rfl rfl λ_ u=>aD fX u.At ?_);have I:r=(⟨[(⟨1,t.n,(ia #[]),t.at_⟩:bZ)],(i+1),0,0⟩:fL):=Y8.trans (ej Ko)
  rw[I];have u:=u.p1.freeze.dF (Ψ:=(λw=>mv w (⟨TS,(i+1),0,0⟩:dX) (⟨[(⟨1,t.n,(ia #[]),t.at_⟩:bZ)],(i+1),0,0⟩:fL))) (λ_ h=>⟨_,rfl,DL.jV h⟩);have u:=u.p1.drop;exact⟨_,rfl,u.fresh⟩
 rintro _ _ ⟨rfl,u⟩ _;refine aY (λRd=>?_) (λRd=>?_)
 .refine aN fK (E.ext u.aF) bM ht (λ_ ak2=>bU t.text nz ak2 rfl rfl λ_ ak3=>have u:=u.drew;aD gB ak3 (aN fK (E.ext u.aF) bM ht λ_ ak4=>bU t.at_ lL ak4 rfl rfl λ_ Qo=>aD bO Qo (pop (Jy _ _ _) (aK bM (bD ([(⟨2,0,t.text,t.at_⟩:bZ)]) u g9 rfl rfl (dR rfl) λazn _ u=>?_)))));obtain⟨TT,rfl⟩:=u.fV;refine pop (zD _ _ _ _) (aJ (x:=(⟨TT,(i+1),0,0⟩:dX)) u.p1 fX rfl rfl λ_ u=>aD fX u.At ?_);have I:r=(⟨[(⟨2,0,t.text,t.at_⟩:bZ)],(i+1),0,0⟩:fL):=Y8.trans ((ei Ko).trans (ej Rd))
  rw[I];have u:=u.p1.freeze.dF (Ψ:=(λw=>mv w (⟨TT,(i+1),0,0⟩:dX) (⟨[(⟨2,0,t.text,t.at_⟩:bZ)],(i+1),0,0⟩:fL))) (λ_ h=>⟨_,rfl,DL.jV h⟩);have u:=u.p1.drop;exact⟨_,rfl,u.fresh⟩
 refine dO Sk (C320 _ l i 5 _ (E.ext u.aF) Z) ?_;rintro _ _ ⟨auK,rfl,O⟩;have u:=u.made O;obtain⟨N0,afk,_⟩:=u.eA;subst afk;refine aJ (x:=(⟨N0,(gw l i 5).to,(gw l i 5).e,(gw l i 5).at_⟩:dX)) u.p1 fX rfl rfl (λ_ u=>aD fX u.At ?_);have I:r=(⟨(gw l i 5).l,(gw l i 5).to,(gw l i 5).e,(gw l i 5).at_⟩:fL):=Y8.trans ((ei Ko).trans (ei (by simpa using Rd)));rw[I];have u:=u.p1.dF (Ψ:=(λw=>mv w (⟨N0,(gw l i 5).to,(gw l i 5).e,(gw l i 5).at_⟩:dX) (⟨(gw l i 5).l,(gw l i 5).to,(gw l i 5).e,(gw l i 5).at_⟩:fL))) (λ_ h=>⟨_,rfl,lE h⟩)
 have u:=u.p1.drop;exact⟨_,rfl,u.fresh⟩
end Go.Proofs.YtpdlpabnlkofmaaGreatDoor

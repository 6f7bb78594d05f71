/-
  Part 5.
-/
import Derived.Test.YtpdlpabnlkofmaaGreatDoorR5x4
set_option maxHeartbeats 8000000
set_option linter.all false
set_option maxRecDepth 100000
open Go.Fw.Flat renaming val->j0,enc->kp,sz->m8,len->zd,pos->Zd
open ByteArray renaming mk->kE
open List renaming getElem?_eq_some_iff->kO,mem_of_getElem?->la,take_of_length_le->ld,getElem?_eq_getElem->l0,length_append->l1,length_take->l2,length_singleton->mv,getElem?_eq_none->n0,length_map->n4,append_assoc->n5,getD_eq_getElem?_getD->oj,length_cons->o1,mem_cons_self->o6,append_nil->pd,getElem?_map->pO,mem_cons_of_mem->r6,replicate->sk,length_eq_zero_iff->sl,mem_cons->s4,take_add_one->tz,range->u7,any_eq_true->ya,foldl_append->FA,getElem?_range->IY,getElem?_drop->Jo,range_succ->Kl,getElem?_take->LD,flatMap_append->Ns
open Nat renaming zero_le->l6,le_refl->pb,le_trans->xe,le_of_ble_eq_true->Ek,lt_succ_self->K9,lt_or_ge->PN,mul_pos->abF
open Go.Fw.Deep renaming dr->ml
open Go.Instr renaming build->mL,sliceAt->ob,sliceBounds->v7,box->By
open Option renaming bind_some->nj,some->oq,toList_some->JN
open Go.Value renaming int->n3,slice->zH
open Int renaming toNat_natCast->qb
open Decidable renaming not_not->uh
open Bool renaming true_and->Ac,not_false->PC
namespace Go.Proofs.YtpdlpabnlkofmaaGreatDoor
open Go.Fw
def lB(l:List bI)(c:Int):Option Int:=(l.reverse.find? λx=>decide (x.kind=3/\x.cell=c)).map (·.n)
def C307(y sv:Value)(b:Nat)(xs:List bI)(J:Nat->hM)(M:hM)(w:World)(Z:xs.length<=1073741824)
  (B:∀k W,J k W->Cell W b 0 sv/\dA (λ_=>True) W sv xs) (G:J 0 w)
  (Y:∀k x W,xs.reverse[k]?=some x->J k W->kK hH y [hZ ((xs.length:Int)-1-k),j0 x] W λv I=>(v=.bool true/\J (k+1) I)\/(v=.bool false/\M I)) :
  CR 307 [y,.pointer (some ⟨b,0,none⟩)] w (λ_ W=>J xs.length W\/M W):=by
 refine acm _ _ _ _ ?_;unfold S307;refine bN iO (B 0 w G).1 (aK fU (B 0 w G).2 (fh bO ?_));refine⟨λm x u=>∃k:Nat,x=hZ ((xs.length:Int)-1-k)/\m=xs.length-k/\k<=xs.length/\J k u,⟨_,0,ee,rfl,l6 _,G⟩,?_⟩;rintro m _ u ⟨k,rfl,rfl,hk,O⟩ _;refine cR (aC (λc=>?_) λc=>?_)
 .obtain⟨h1,h2⟩:=B k u O;have nS:k<xs.length:=bO
  have V:xs.reverse[k]?=some (xs[xs.length-1-k]'(bO)):=cL
  refine bN iO h1 (aQ fU h2 bO (x:=xs[xs.length-1-k]'(bO)) (by simp_all) λq U=>aD ix U ?_);obtain E:=Y k _ u V O;refine kK.mono E ?_;rintro v w2 (⟨rfl,Bj⟩|⟨rfl,HF⟩)
  .refine bR (fw (fh bO ?_))
   grind
  refine bR (iB ?_)
  grind
 grind
def C276(sv:Value)(w:World)(h1:wA sv=true):CR 276 [sv] w (λv w'=>∃b,v=.func (.func 307) [].toArray [.pointer (some ⟨b,0,none⟩)].toArray/\kV (bY b [sv]) w w'):=by
 have u:=St.start w;refine eZ Tryz.func276 ?_;exact nA u h1 (λb _ u=>⟨b,rfl,u.fresh⟩)
theorem HO{α:Type}{p:α->Bool}{l:List α}{k:Nat}{x:α}(I:∀y∈l.take k,p y=false)(J:l[k]?=some x)(G:p x=true):l.find? p=some x:=by
 rw[List.find?_eq_some_iff_getElem]
 have E:=(kO.1 J)
 obtain⟨B,u⟩:=E
 refine⟨G,k,B,u,λj M=>?_⟩
 have:=I (l[j]'(bO)) (List.mem_take_iff_getElem.2 ⟨j,bO,rfl⟩)
 simp[this]
def C226(p:Nat)(c room:Int)(l:List bI)(w:World)(hb:uo w p room l)(hn:l.length<=1048576) :
  CR 226 [.pointer (some ⟨p,0,none⟩),hZ c] w (λv w'=>v=.tuple #[hZ ((lB l c).getD 0),.bool (lB l c).isSome]/\Ext w w'):=by
 obtain⟨sv,CK,u6,hL⟩:=hb;have u:=St.start w;refine eZ Tryz.func226 ?_;refine nA u rfl (λb3 _ u=>gF u uG rfl λb4 _ u=>gF u Ws rfl λV _ u=>aE (aA kT (bN iO (u6.ext u.aG) (dM anl (C276 sv _ hL.one) ?_))));rintro _ _ ⟨b,rfl,cJ⟩;have u:=u.made cJ
 refine wZ (cap:=[.pointer (some ⟨b,0,none⟩)]) (xs:=(u7 l.length).map fun (k:Nat)=>[n3 .i64 ((l.length:Int)-1-k),j0 ((l.reverse[k]?).getD ⟨0,0,0,0⟩)]) anx u
  (λk M=>M=[bY b [sv],bY V [.bool false],bY b4 [hZ 0],bY b3 [hZ c]]/\∀y∈l.reverse.take k,decide (y.kind=3/\y.cell=c)=false)
  (λcd M=>cd=.ret/\∃x,lB l c=some x/\M=[bY V [.bool true],bY b4 [hZ x]])
  ⟨rfl,ee⟩ ee ?_ ?_ ?_ ?_ ?_ ?_
 ·
  intro y J Jx W hJ YK TU hy;refine(C307 y sv b l J Jx W bO (λk W E=>?_) TU λk x W G E=>?_).mono λ_ _ r=>r.mono λv W' h=>?_
  .obtain⟨Y,M,⟨rfl,_⟩,hS⟩:=hJ k W E;exact⟨hS.p1.hb.cell rfl,hL.ext hS.aG⟩
  .have O:=(kO.1 G).1;rw[List.length_reverse]at O;have:=hy k [n3 .i64 ((l.length:Int)-1-k),j0 x] W (by rw[pO,IY O];simp[G]) E;exact this
  simpa using h
 ·
  rintro k args Y1 Y2 B Kr M W E ⟨rfl,U⟩ hB hN hR u
  have O:k<l.length:=by
   have:=(kO.1 E).1
   simpa using this
  obtain⟨x,G⟩:∃x,l.reverse[k]?=some x:=⟨_,l0 (by simpa using O)⟩
  have ha:args=[n3 .i64 ((l.length:Int)-1-k),j0 x]:=by
   rw[pO,IY O]at E;simp[G]at E;exact E.symm
  subst ha;dsimp only[Eg];refine aM u rG (λb7 _ u=>En u ix rfl dD (by simp[wA,ji]) λ_ u=>?_);refine hB _ _ _ u.p1 (λw8 u=>?_);have e7:ji [n3 IntKind.i64 0,hZ 0,hZ 0,hZ 0] 0 [n3 .i64 x.kind,hZ x.line,hZ x.cell,hZ x.n]=kp x:=rfl;refine⟨_,?_,λ_ _ h=>h⟩;refine aA gK (aB bL u.p1.hb rfl (aH ?_))
  have no:¬ (x.kind=3/\x.cell=c)->Kr none w8:=λI=>by
   refine hN _ _ u.p1.drop.p0 ⟨rfl,?_⟩;exact dY U G (by simpa using I)
  refine aC (λZ=>?_) (λZ=>?_)
  .refine aA mB (aB bL u.p1.hb rfl (aB bL u.p5.hb rfl (aH ?_)));intro tu;refine aC (λc2=>aA oZ (aB bL u.p1.hb rfl (aT u.p4 bL (Ek rfl) rfl λ_ u=>aT u.p4 AB (Ek rfl) rfl λ_ u=>hR _ [bY V [.bool true],bY b4 [hZ x.n]] _ u.p5.drop.p4.drop.p3.drop.p2 ⟨rfl,x.n,?_,rfl⟩))) (λc2=>no λI=>c2 I.2);unfold lB;rw[HO U G (by simpa using⟨Z,c2⟩)];rfl
  intro tu;exact fw (no λI=>Z I.1)
 ·
  rintro D M W ⟨rfl,U⟩ u;refine aT u.p3 bL (Ek rfl) rfl (λ_ u=>aT u.p3 AB (Ek rfl) rfl λ_ u=>?_);refine Ey u.p2 (λw15 u=>?_);refine aB bL u.p1.hb rfl (aB AB u.hb rfl ?_)
  have:lB l c=none:=by
   unfold lB
   rw[show l.reverse.find? _=none from List.find?_eq_none.2 λy hy=>by
    have:=U y (by rw[ld ee];exact hy);simp only[this];exact Bool.false_ne_true]
   rfl
  rw[this];exact⟨rfl,u.aG⟩
 .rintro D M W ⟨_,x,hl,rfl⟩ u;refine Ey u (λw15 u=>?_);refine aB bL u.p1.hb rfl (aB AB u.hb rfl ?_);rw[hl];exact⟨rfl,u.aG⟩
 .rintro id D M W ⟨h,_⟩;cases h
 rintro c M ⟨h,_⟩;exact .inr h
theorem JK{α:Type}(l:List α)(i:Nat):([]++l.take i)++l.drop (i+1)=l.eraseIdx i:=by
 grind
def JL{α:Type}{xs ys:List α}{k:Nat}{e f:α}(h:xs.take k=ys.take k)(h1:xs[k]?=some e)(h2:ys[k]?=some f)(u:e=f):xs.take (k+1)=ys.take (k+1):=by
 rw[tz,tz,h,h1,h2,u]
def Uw{α:Type}{xs ys:List α}{k:Nat}{e f:α}(h1:xs[k]?=some e)(h2:ys[k]?=some f)(u:¬ e=f):¬ xs=ys:=by
 grind
theorem Qj{l:List bI}{c:Int}{k:Nat}{x:bI}(I:∀y∈l.drop (k+1),¬ (y.kind=3/\y.cell=c))(B:l[k]?=some x)(G:x.kind=3/\x.cell=c):lB l c=some x.n:=by
 unfold lB
 have E:=(kO.1 B).1
 rw[HO (k:=l.length-1-k) (x:=x) ?_ ?_ cL]
 .rfl
 .intro y u
  have:y∈l.drop (k+1):=by
   rw[List.take_reverse]at u
   grind
  grind
 grind
theorem Qk{l:List bI}{c:Int}(u:∀y∈l,¬ (y.kind=3/\y.cell=c)):lB l c=none:=by
 grind[lB]
def SN{l:List bI}{c:Int}{k:Nat}{x:bI}(J:∀y∈l.drop (k+1),¬ (y.kind=3/\y.cell=c))(E:l[k]?=some x)(I:¬ (x.kind=3/\x.cell=c)):∀y∈l.drop k,¬ (y.kind=3/\y.cell=c):=by
 intro y B
 obtain⟨u,G⟩:=kO.1 E
 rw[List.drop_eq_getElem_cons u]at B
 grind
def aec{l:List bI}{i:Int}{k:Nat}{x y:bI}(u:0<=i)(h1:i<l.length)(B:l[i.toNat]?=some x)(G:k<i.toNat)(E:l[k]?=some y)(I:j6 x y=false):rK l i=false:=by
 rw[SK u h1 B]
 have:(l.take i.toNat).any (λy=>!j6 x y)=true:=by
  rw[ya]
  exact⟨y,List.mem_iff_getElem?.2 ⟨k,cL⟩,cL⟩
 grind
def Zb{l:List bI}{i:Int}{x:bI}(u:0<=i)(h1:i<l.length)(E:l[i.toNat]?=some x)(B:∀y∈l.take i.toNat,j6 x y=true):rK l i=true:=by
 grind[rK]
def C49(room:Int)(w:World):CR 49 [hZ room] w (λv w'=>((room<1\/16<room)/\v=.tuple #[.pointer none,hZ 1]/\Ext w w')\/(1<=room/\room<=16/\∃b,v=.tuple #[.pointer (some ⟨b,0,none⟩),hZ 0]/\kV (jk b room []) w w')):=by
 have u:=St.start w;refine eZ Tryz.func49 ?_;refine⟨_,?_,λ_ _ h=>h⟩;refine aR (aC (λB=>?_) λB=>?_)
 .intro E;exact iB (.inl ⟨bO,rfl,u.aG⟩)
 refine cN ?_;intro E;exact aC (λ_=>.inl ⟨bO,rfl,u.aG⟩) (λ_=>pop (WH _) (nB u λb _ u=>have u:=(u.eM (α:=bI)).p1;.inr ⟨bO,bO,b,rfl,(jk.shut u).fresh⟩))
def C58(room:Int)(w:World):CR 58 [hZ room] w (λv w'=>((room<1\/16<room)/\v=.tuple #[.pointer none,hZ 1]/\Ext w w')\/(1<=room/\room<=16/\∃b,v=.tuple #[.pointer (some ⟨b,0,none⟩),hZ 0]/\kV (jk b room []) w w')):=by
 have u:=St.start w;refine eZ Tryz.func58 ?_;refine⟨_,?_,λ_ _ h=>h⟩;refine aR (aC (λB=>?_) λB=>?_)
 .intro E;exact iB (.inl ⟨bO,rfl,u.aG⟩)
 refine cN ?_;intro E;exact aC (λ_=>.inl ⟨bO,rfl,u.aG⟩) (λ_=>pop (WI _) (nB u λb _ u=>have u:=(u.eM (α:=bI)).p1;.inr ⟨bO,bO,b,rfl,(jk.shut u).fresh⟩))
def C71(U O:Value)(xs ys:List Int)(w:World)(G:dA (λ_=>True) w U xs)(M:dA (λ_=>True) w O ys)(hn:xs.length<=1073741824):CR 71 [U,O] w (λv w'=>v=.bool (decide (xs=ys))/\Ext w w'):=by
 have u:=St.start w;refine oL Tryz.func71 (pl:=P71) ?_;refine aK cS (G.ext u.aG) (aK cS (M.ext u.aG) (bX (aC (λ_=>⟨vb (fP (by rintro rfl;omega)).symm,u.aG⟩) λZ=>?_)));refine⟨λm x V=>∃k:Nat,x=hZ (k:Int)/\m=xs.length-k/\k<=xs.length/\xs.take k=ys.take k/\St w aZ [] V,⟨_,0,rfl,rfl,l6 _,rfl,u⟩,?_⟩;rintro m _ V ⟨k,rfl,rfl,hk,E,u⟩ _;refine aK cS (G.ext u.aG) (aR (aC (λjH=>?_) λ_=>⟨vb (ew (by rw[ld bO,ld bO]at E;exact E)).symm,u.aG⟩));obtain⟨lX,B⟩:=gx xs (i:=(k:Int).toNat) bO
 refine aQ cS (G.ext u.aG) bO B (λ_ W=>have u:=u.drew;aD bL W ?_);obtain⟨qF,J⟩:=gx ys (i:=(k:Int).toNat) bO;exact aQ cS (M.ext u.aG) bO J (λ_ Y=>aD bL Y (bX (aC (λI=>⟨vb (fP (Uw B J I)).symm,u.aG⟩) λI=>aO bO ⟨xs.length-(k+1),bO,k+1,rfl,rfl,bO,JL E B J (uh.1 I),u⟩)))
def C229(p:Nat)(c room:Int)(l:List bI)(w:World)(hb:uo w p room l)(hn:l.length<=1073741824):CR 229 [.pointer (some ⟨p,0,none⟩),hZ c] w (λv w'=>v=.tuple #[hZ ((lB l c).getD 0),.bool (lB l c).isSome]/\Ext w w'):=by
 obtain⟨sv,CK,I,J⟩:=hb;have u:=St.start w;refine aca _ _ _ _ ?_;unfold S229;refine aE (aA g8 (bN iO (I.ext u.aG) (aK fU (J.ext u.aG) (fh bO ?_))));refine⟨λm x V=>∃k:Nat,x=hZ ((k:Int)-1)/\m=k/\k<=l.length/\(∀y∈l.drop k,¬ (y.kind=3/\y.cell=c))/\St w aZ [] V,⟨_,l.length,rfl,rfl,pb _,ee,u⟩,?_⟩;rintro k _ V ⟨_,rfl,rfl,hk,G,u⟩ _;refine cR (aC (λY=>?_) λY=>?_)
 .refine⟨_,?_,λ_ _ h=>h⟩;refine aE (aA g8 (bN iO (I.ext u.aG) ?_));obtain⟨B,E⟩:=gx l (i:=((k:Int)-1).toNat) bO;refine aQ fU (J.ext u.aG) bO E (λ_ A6=>bV B.kind gK A6 rfl rfl λ_ qG=>aD bL qG (aH (aC (λU=>?_) λU=>?_)))
  .refine aE (aA g8 (bN iO (I.ext u.aG) (aQ fU (J.ext u.aG) bO E λ_ xw=>bV B.cell mB xw rfl rfl λ_ Z=>aD bL Z (aH ?_))));intro vZ;refine aC (λM=>?_) (λM=>fh bO ⟨k-1,bO,k-1,by congr 1;omega,rfl,bO,SN (x:=B) (by rw[show k-1+1=k from bO];exact G) (by rw[<- E];congr 1;omega) (λO=>M O.2),u⟩);refine aE (aA g8 (bN iO (I.ext u.aG) (aQ fU (J.ext u.aG) bO E λ_ wi=>bV B.n oZ wi rfl rfl λ_ W=>aD bL W ?_)))
   rw[Qj (k:=k-1) (x:=B) (by rw[show k-1+1=k from bO];exact G) (by rw[<- E];congr 1;omega) ⟨U,M⟩];exact⟨rfl,u.aG⟩
  intro vZ;exact fw (fh bO ⟨k-1,bO,k-1,by congr 1;omega,rfl,bO,SN (x:=B) (by rw[show k-1+1=k from bO];exact G) (by rw[<- E];congr 1;omega) (λO=>U O.1),u⟩)
 rw[Qk (by rw[show k=0 from bO]at G;simpa using G)];exact⟨rfl,u.aG⟩
def C151(p:Nat)(i room:Int)(l:List bI)(w:World)(hb:uo w p room l)(hn:l.length<=1073741824):CR 151 [.pointer (some ⟨p,0,none⟩),hZ i] w (λv w'=>v=.bool (rK l i)/\Ext w w'):=by
 obtain⟨sv,CK,E,G⟩:=hb;have u:=St.start w;refine oL Tryz.func151 (pl:=auJ) ?_;refine⟨_,?_,λ_ _ h=>h⟩;refine aR (aC (λgT=>?_) λgT=>?_)
 .intro W;exact iB ⟨vb (lZ bO).symm,u.aG⟩
 refine aE (aA g8 (bN iO (E.ext u.aG) (aK fU (G.ext u.aG) (cR ?_))));intro W;refine aC (λ_=>⟨vb (lZ bO).symm,u.aG⟩) (λeu=>?_);refine⟨λm x V=>∃k:Nat,x=hZ (k:Int)/\m=i.toNat-k/\(k:Int)<=i/\(∀x y,l[i.toNat]?=some x->y∈l.take k->j6 x y=true)/\St w aZ [] V,⟨_,0,rfl,rfl,bO,ee,u⟩,?_⟩;rintro m _ V ⟨k,rfl,rfl,hk,O,u⟩ _;refine aR (aC (λft=>?_) λft=>⟨vb (Zb (x:=l[i.toNat]'(bO)) bO bO (l0 _) λy B=>O _ y (l0 _) (by rw[show k=i.toNat from bO];exact B)).symm,u.aG⟩)
 refine aE (aA g8 (have u:=u.drew;bN iO (E.ext u.aG) ?_));obtain⟨Z,J⟩:=gx l (i:=(i).toNat) bO;refine aQ fU (G.ext u.aG) bO J (λ_ Y=>aD ix Y (aE (aA g8 (bN iO (E.ext u.aG) ?_))));obtain⟨va,M⟩:=gx l (i:=(k:Int).toNat) bO;refine aQ fU (G.ext u.aG) bO M (λ_ xA=>aD ix xA (aV am4 u (C222 _ _ _) λ_ he u=>bR (aY (λI=>⟨vb (aec bO bO J bO M (by simpa using I)).symm,u.aG⟩) λI=>aO bO ?_)));refine⟨i.toNat-(k+1),bO,k+1,rfl,rfl,bO,λx y U B=>?_,u⟩
 rw[oq.inj (U.symm.trans J)]at *;exact dY (φ:=λy=>j6 Z y=true) (λy B=>O _ y U B) M (by simpa using I) y B
def C81(p:Nat)(room:Int)(l:List bI)(w:World)(hb:uo w p room l)(Z:l.length<=1048576):CR 81 [.pointer (some ⟨p,0,none⟩)] w (λv w'=>kV (bH v (pF l)) w w'):=by
 have V:=hb;obtain⟨sv,CK,I,M⟩:=hb;have u:=St.start w;refine eZ Tryz.func81 ?_;refine bD ([]:List Int) u cS rfl rfl (dL rfl) (λO8 B u=>?_);refine⟨λm o x B=>∃k:Nat,x=hZ (k:Int)/\m=l.length-k/\k<=l.length/\St w aZ [bH o (sO l k)] B,⟨_,0,rfl,rfl,l6 _,u⟩,?_⟩;rintro m o _ B ⟨k,rfl,rfl,hk,u⟩ _;have Fe:=HK l k;refine aE (aA g8 (bN iO (I.ext u.aG) (aK fU (M.ext u.aG) (aR (aC (λU=>⟨_,aV afE u (C151 _ _ _ _ _ (V.ext u.aG) bO) (λ_ W u=>aY (λE=>?_) λE=>?_),λ_ _ h=>h⟩) λU=>?_)))))
 .refine bD ([(k:Int)]:List Int) u cS rfl rfl (dL rfl) (λY _ u=>?_);have G:=u.dS;refine bJ u.p1 cS G (by simp<;>omega) dD (λJ _ u=>?_);have u:=u.p1.drop;intro O;exact aO bO ⟨l.length-(k+1),bO,k+1,rfl,rfl,bO,by rw[FG E];exact u⟩
 .intro O;exact aO bO ⟨l.length-(k+1),bO,k+1,rfl,rfl,bO,by rw[HL E];exact u⟩
 rw[FH l bO]at u;exact u.fresh
def C230(p:Nat)(room:Int)(l:List bI)(x:bI)(F:Nat->Prop)(w:World)(M:(jk p room l).p w F)(V:l.length<=1048576):CR 230 [.pointer (some ⟨p,0,none⟩),j0 x] w (λv w'=>v=hZ (MK room l x)/\mU F (jk p room (sP room l x)) w w'):=by
 have u:=St.begin M;obtain⟨sv,u⟩:=u.eo;have u:=u.split;refine oL Tryz.func230 (pl:=auX) ?_;refine cG u (λJ _ u=>aD ix u.At (aV anm u (C277 _ _) λ_ U u=>bR (aY (λB=>?_) λB=>aE (aA g8 (have u:=u.drew;aB iO u.p1.hb rfl (aK fU u.p2.dS (aE (aA WB (aB bL u.p1.hb rfl (cR (aC (λE=>?_) λE=>?_)))))))))))
 .have u:=u.p2.p2;rw[ML (by simpa using B),MM (by simpa using B)];exact⟨rfl,(jk.shut u).mut⟩
 .have u:=u.p2.p2;rw[HM (by simpa using B) E,HN E];exact⟨rfl,(jk.shut u).mut⟩
 refine aE (aA g8 (have u:=u.drew;aB iO u.p1.hb rfl (aD ix u.At (bD ([x]) u fU rfl rfl (dL rfl) λI _ u=>?_))));refine⟨aF iO (u.p2.hb.cell rfl),?_⟩;have O:=u.dS;refine bJ u.p3 fU O (by simp<;>omega) dD (λG _ u=>have u:=u.p1.drop;aE (aA g8 (aT u.p2 iO (dL rfl) u.dS.one λ_ u=>?_)));have u:=u.p1.p1;rw[SL (by simpa using B) E,SM (by simpa using B) E];exact⟨rfl,(jk.shut u).mut⟩
def C165(p:Nat)(room:Int)(l:List bI)(i:Int)(F:Nat->Prop)(w:World)(Z:(jk p room l).p w F)(hn:l.length<=1048576):CR 165 [.pointer (some ⟨p,0,none⟩),hZ i] w (λv w'=>v=.tuple #[j0 (dH l i),hZ (xD l i)]/\mU F (jk p room (jW l i)) w w'):=by
 have u:=St.begin Z;obtain⟨sv,u⟩:=u.eo;have u:=u.split;refine ab6 _ _ _ _ ?_;unfold S165;refine aM u rG (λPb _ u=>?_);refine⟨_,?_,λ_ _ h=>h⟩;refine aR (aC (λjL=>?_) λjL=>?_)
 .intro V;refine iB (pop yl (aJ (x:=(⟨0,0,0,0⟩:bI)) u ix rfl rfl λJ u=>aD ix u.At ?_));have u:=u.p2.p2;rw[rW (lZ bO),yu bO,rX (lZ bO)];exact⟨rfl,(jk.shut u).mut⟩
 refine aE (aA g8 (aB iO u.p1.hb rfl (aK fU u.p2.dS (cR ?_))));intro V;refine aC (λW=>?_) (λW=>aV afE u (C151 _ _ _ _ _ (uo.mk' u.p1.hb u.p2.dS) bO) λ_ he u=>bR (aY (λB=>?_) λB=>?_))
 .refine pop yl (aJ (x:=(⟨0,0,0,0⟩:bI)) u ix rfl rfl λJ u=>aD ix u.At ?_);have u:=u.p2.p2;rw[rW (lZ bO),yu bO,rX (lZ bO)];exact⟨rfl,(jk.shut u).mut⟩
 .refine pop yl (aJ (x:=(⟨0,0,0,0⟩:bI)) u ix rfl rfl λ_ u=>aD ix u.At ?_);have u:=u.p2.p2;rw[rW (by simpa using B),MN bO (by simpa using B),rX (by simpa using B)];exact⟨rfl,(jk.shut u).mut⟩
 refine aE (aA g8 (aB iO u.p1.hb rfl ?_));obtain⟨I,G⟩:=gx l (i:=(i).toNat) bO;refine dR u.p2 fU bO bO (λ_ mF=>gP u.p2 ix mF G (aM u rG λQi _ u=>aJ (x:=I) u ix rfl rfl λ_ u=>bD ([]:List bI) u fU rfl rfl (dL rfl) λaqJ _ u=>aE (aA g8 (aB iO u.p3.hb rfl (l9 fU u.p4.dS bO bO λap3 yZ=>?_)))));have E:=yZ;refine bJ u fU E (by simp<;>omega) dD (λM _ u=>aE (aA g8 (aB iO u.p3.hb rfl (aO bO (B0 fU u.p4.dS bO bO λaqK U=>?_)))))
 have Y:=U;refine bJ u fU Y (by simp<;>omega) dD (λO _ u=>aE (aA g8 (aT u.p3 iO (dL rfl) u.dS.one λ_ u=>aD ix u.p2.At (aJ (x:=I) u.p3 ix rfl rfl λ_ u=>aD ix u.At ?_))));have u:=u.p2.p2;rw[MP (by simpa using B) G,MO (by simpa using B),MQ (by simpa using B),<- JK,<- show(i+1).toNat=i.toNat+1 from bO];exact⟨rfl,(jk.shut u).mut⟩
structure Mem where
 of:List Int
 dW:List Int
 l:List Int
 kept:List Int
 fL:Int->List kr
def fW(of:List Int):Int:=if of.length=0 then 0 else of.getD (of.length-1) 0+1
def nR(k:List Int)(ws:List kr):List Int:=ws.foldl (λk w=>k.set w.cell.toNat w.n) k
theorem xF(ws:List kr):∀k:List Int,(nR k ws).length=k.length:=by
 induction ws with
 | nil=>intro k;rfl
 | cons x ws u=>simp_all[nR]
theorem Cr(ws:List kr)(x:kr)(k:List Int):nR k (ws++[x])=(nR k ws).set x.cell.toNat x.n:=by
 unfold nR;grind
theorem HQ{ws:List kr}{j:Nat}{x:kr}{k:List Int}(u:ws[j]?=some x):nR k (ws.take (j+1))=(nR k (ws.take j)).set x.cell.toNat x.n:=by
 rw[tz,u];exact Cr _ _ _
def GJ(m:Mem)(cell:Int):Bool:=decide (0<=cell/\cell<m.l.length)
def fm(m:Mem)(cell n:Int):Mem:=if GJ m cell=true then {m with l:=m.l.set cell.toNat n,fL:=if cell<m.of.length then pR m.fL (m.of.getD cell.toNat 0) (m.fL (m.of.getD cell.toNat 0)++[⟨cell,n⟩])else m.fL}else m
def FJ(m:Mem)(line:Int):Bool:=decide (0<=line/\line<fW m.of)
def oh(m:Mem)(line:Int):Mem:=if FJ m line=true then {m with kept:=nR m.kept (m.fL line),fL:=pR m.fL line []}else m
structure wI(m:Mem):Prop where
 MR:m.of.length<=m.dW.length
 fl:m.dW.length<=20
 ll:m.l.length=m.dW.length
 kl:m.kept.length=m.of.length
 ofr:∀n∈m.of,0<=n/\n<fW m.of
 lb:fW m.of<=20
 pc:∀k,∀x∈m.fL k,0<=x.cell/\x.cell<m.of.length
def MB(m:Mem)(n:Nat):Prop:=∀k,(m.fL k).length<=n
def iN(p:Nat)(ov fv:Value)(m:Mem):HP:=pM λlv=>pM λkv=>pM λpm=>sep (bY p [ov,fv,lv,kv,.map (some pm)]) (sep (bH lv m.l) (sep (bH kv m.kept) (rp pm m.fL)))
def Bo(ov fv:Value)(m:Mem)(w:World):Prop:=dA (λ_=>True) w ov m.of/\dA (λ_=>True) w fv m.dW
def yH(w:World)(p:Nat)(m:Mem):Prop:=∃ov fv lv kv pm,Cell w p 0 ov/\Cell w p 1 fv/\Cell w p 2 lv/\Cell w p 3 kv/\Cell w p 4 (.map (some pm))/\dA (λ_=>True) w ov m.of/\dA (λ_=>True) w fv m.dW/\dA (λ_=>True) w lv m.l/\dA (λ_=>True) w kv m.kept/\wg w pm m.fL
section
variable {w w' w0:World}{A F:Nat->Prop}{R:List HP}{p:Nat}{ov fv lv kv:Value}{m:Mem}{pm:Nat}
theorem yH.ext(h:yH w p m)(e:Ext w w'):yH w' p m:=by
 obtain⟨ov,fv,lv,kv,pm,I,G,E,J,u,B,h1,h2,h3,h4⟩:=h
 exact⟨ov,fv,lv,kv,pm,I.ext e,G.ext e,E.ext e,J.ext e,u.ext e,B.ext e,h1.ext e,h2.ext e,h3.ext e,h4.ext e⟩
theorem yH.mk'(h:mW w p [ov,fv,lv,kv,.map (some pm)])(u:Bo ov fv m w)(h2:dA (λ_=>True) w lv m.l)(h3:dA (λ_=>True) w kv m.kept)(h4:wg w pm m.fL):yH w p m:=
 ⟨ov,fv,lv,kv,pm,h.cell rfl,h.cell rfl,h.cell rfl,h.cell rfl,h.cell rfl,u.1,u.2,h2,h3,h4⟩
theorem iN.open(u:St w0 A (iN p ov fv m::R) w):∃lv kv pm,St w0 A (bY p [ov,fv,lv,kv,.map (some pm)]::bH lv m.l::bH kv m.kept::rp pm m.fL::R) w:=by
 obtain⟨lv,u⟩:=u.eo;obtain⟨kv,u⟩:=u.eo;obtain⟨pm,u⟩:=u.eo
 have h1:=u.split
 have h2:=h1.p1.split
 have h3:=h2.p1.split
 exact⟨lv,kv,pm,h3.p2.p3⟩
theorem iN.shut(u:St w0 A (bY p [ov,fv,lv,kv,.map (some pm)]::bH lv m.l::bH kv m.kept::rp pm m.fL::R) w):St w0 A (iN p ov fv m::R) w:=by
 have h1:St w0 A (sep (bH kv m.kept) (rp pm m.fL)::bY p [ov,fv,lv,kv,.map (some pm)]::bH lv m.l::R) w:=St.join u.p3.p3
 have h2:St w0 A (sep (bH lv m.l) (sep (bH kv m.kept) (rp pm m.fL))::bY p [ov,fv,lv,kv,.map (some pm)]::R) w:=St.join h1.p2
 exact St.ep lv (St.ep kv (St.ep pm (St.join h2.p1)))
theorem JM(u:St w0 A (iN p ov fv m::R) w)(B:Bo ov fv m w):yH w p m:=by
 obtain⟨lv,kv,pm,u⟩:=iN.open u
 exact yH.mk' u.hb B u.p1.dS u.p2.dS u.p3.Xx
end
def C148(p:Nat)(m:Mem)(w:World)(J:yH w p m)(B:wI m):CR 148 [(.pointer (some ⟨p,0,none⟩))] w (λv w'=>v=hZ (fW m.of)/\Ext w w'):=by
 have V:=J;obtain⟨ov,fv,lv,kv,pm,I,c1,c2,c3,c4,E,Ou,Y,O,hP⟩:=J;have Z:=B.fl;have Ku:=B.MR;have Ag:=B.ll;have yX:=B.kl;have Om:=B.lb;have u:=St.start w;refine oL Tryz.func148 (pl:=auI) ?_;refine aE (aA wW (bN eh (I.ext u.aG) (aK cS (E.ext u.aG) (aH (aC (λ_=>⟨gQ (n3 .i64) (by unfold fW;rw[ej bO]),u.aG⟩) λgH=>aE (aA wW (have u:=u.drew;bN eh (I.ext u.aG) (aE (aA wW (bN eh (I.ext u.aG) (aK cS (E.ext u.aG) (fh bO ?_))))))))))));obtain⟨W,G⟩:=gx m.of (i:=((m.of.length:Int)-1).toNat) bO
 refine aQ cS E bO G (λ_ M=>aD bL (M.ext u.aG) ?_);have U:=B.ofr _ (la G);exact aO bO ⟨gQ (n3 .i64) (by unfold fW;rw[ei bO,oj,show m.of.length-1=((m.of.length:Int)-1).toNat from bO,G];rfl),u.aG⟩
def C227(p:Nat)(m:Mem)(cell:Int)(w:World)(E:yH w p m)(hk:wI m):CR 227 [(.pointer (some ⟨p,0,none⟩)),hZ cell] w (λv w'=>v=.tuple #[hZ (if GJ m cell=true then m.l.getD cell.toNat 0 else 0),hZ (if GJ m cell=true then 0 else 1)]/\Ext w w'):=by
 have Z:=E;obtain⟨ov,fv,lv,kv,pm,c0,c1,I,c3,c4,Y,Ou,G,O,hP⟩:=E;have u:=St.start w;refine eZ Tryz.func227 ?_;refine⟨λV w'=>V=.bool (decide (cell<0\/m.l.length<=cell))/\w=w',aR (aC (λ_=>⟨Oi bO,rfl⟩) λ_=>aE (aA sm (bN eh (I.ext u.aG) (aK cS (G.ext u.aG) (cR ⟨yN bO,rfl⟩))))),?_⟩;rintro _ _ ⟨rfl,U⟩ _;subst U;refine aC (λM=>?_) (λM=>?_)
 .have B:GJ m cell=false:=by unfold GJ;rw[decide_eq_false_iff_not];omega
  rw[B];exact⟨rfl,u.aG⟩
 refine aE (aA sm (bN eh (I.ext u.aG) ?_));obtain⟨FI,J⟩:=gx m.l (i:=cell.toNat) bO;refine aQ cS G bO J (λ_ W=>aD bL (W.ext u.aG) ?_);have B:GJ m cell=true:=by unfold GJ;rw[decide_eq_true_eq];omega
 rw[B,oj,J];exact⟨rfl,u.aG⟩
def C144(p:Nat)(m:Mem)(w:World)(E:yH w p m)(B:wI m):CR 144 [(.pointer (some ⟨p,0,none⟩))] w (λv w'=>kV (bH v m.l) w w'):=by
 have O:=E;obtain⟨ov,fv,lv,kv,pm,c0,W,J,c3,Z,M,Ou,G,I,Y⟩:=E;have U:=B.fl;have V:=B.MR;have Ag:=B.ll;have yX:=B.kl;have Om:=B.lb;have u:=St.start w;refine eZ Tryz.func144 ?_;exact aE (aA sm (bN eh (J.ext u.aG) (dU ON u (C83 _ _ _ (G.ext u.aG) bO) λ_ _ _ u=>u.fresh)))
def C145(p:Nat)(m:Mem)(w:World)(G:yH w p m)(B:wI m):CR 145 [(.pointer (some ⟨p,0,none⟩))] w (λv w'=>kV (bH v m.kept) w w'):=by
 have M:=G;obtain⟨ov,fv,lv,kv,pm,c0,W,Y,I,c4,J,Ou,O,E,Z⟩:=G;have U:=B.fl;have V:=B.MR;have Ag:=B.ll;have yX:=B.kl;have Om:=B.lb;have u:=St.start w;refine eZ Tryz.func145 ?_;exact aE (aA AI (bN eh (I.ext u.aG) (dU ON u (C83 _ _ _ (E.ext u.aG) bO) λ_ _ _ u=>u.fresh)))
def C156(p:Nat)(ov fv:Value)(m:Mem)(F:Nat->Prop)(cell n:Int)(w:World)(Y:(iN p ov fv m).p w F)(O:∀w',gz F w w'->Bo ov fv m w')(E:wI m)(hb:MB m 1000000):CR 156 [(.pointer (some ⟨p,0,none⟩)),hZ cell,hZ n] w (λv w'=>v=hZ (if GJ m cell=true then 0 else 1)/\mU F (iN p ov fv (fm m cell n)) w w'):=by
 have u:=St.begin Y;obtain⟨lv,kv,pm,u⟩:=iN.open u;have MT:=E.fl;have Ku:=E.MR;have Ag:=E.ll;have yX:=E.kl;have Om:=E.lb;refine oL Tryz.func156 (pl:=auK) ?_;refine⟨λjv w'=>jv=.bool (decide (cell<0\/m.l.length<=cell))/\w=w',aR (aC (λ_=>⟨Oi bO,rfl⟩) λ_=>aE (aA sm (aB eh u.hb rfl (aK cS u.p1.dS (cR ⟨yN bO,rfl⟩))))),?_⟩;rintro _ _ ⟨rfl,W⟩ _;subst W;refine aC (λV=>?_) (λV=>?_)
 .have u:=u.p3.p3.p3.p3;have G:GJ m cell=false:=by unfold GJ;rw[decide_eq_false_iff_not];omega
  unfold fm;rw[G];exact⟨rfl,(iN.shut u).mut⟩
 have G:GJ m cell=true:=by unfold GJ;rw[decide_eq_true_eq];omega
 refine aE (aA sm (aB eh u.hb rfl ?_));obtain⟨SP,FK⟩:=gx m.l (i:=cell.toNat) bO;refine dR u.p1 cS bO bO (λ_ Fv=>jw _ u.p1 bL Fv bO λ_ u=>⟨λw'=>St w F [iN p ov fv (fm m cell n)] w',aE (aA wW (aB eh u.p1.hb rfl (aK cS (O _ u.aG).1 (aR (aC (λkf=>?_) λkf=>?_))))),?_⟩)
 .refine aE (aA wW (aB eh u.p1.hb rfl ?_));obtain⟨I,M⟩:=gx m.of (i:=cell.toNat) bO;refine aQ cS (O _ u.aG).1 bO M (λ_ yZ=>aD bL yZ (aE (aA sn (have u:=u.drew;aB yU u.p1.hb rfl (aE (aA sn (aB yU u.p1.hb rfl ?_)))))));have hbx:=hb I;obtain⟨J,u⟩:=u.p3.LX (k:=I);refine⟨_,u.p1.Cb Tryz.underlying185 Ld AJ,?_⟩;refine pop (OY _ _) (bD ([(⟨cell,n⟩:kr)]) u CN rfl rfl (dL rfl) λU _ u=>?_);refine⟨aF yU (u.p4.hb.cell rfl),?_⟩;refine⟨aF yU (u.p4.hb.cell rfl),?_⟩
  refine⟨u.p2.Cb Tryz.underlying185 Ld AJ,?_⟩;have Z:=u.dS;refine bJ u.p1 CN Z (by simp;omega) dD (λaoM _ u=>?_);have u:=u.p1.drop;refine⟨aF yU (u.p3.hb.cell rfl),?_⟩;obtain⟨FL,rfl⟩:=u.fK;have u:=u.p1.p1;refine LY u Tryz.underlying185 Ld (λ_ u=>?_);have u:=u.p3.p2.p3;have B:fm m cell n={m with l:=m.l.set cell.toNat n,fL:=pR m.fL I (m.fL I++[⟨cell,n⟩])}:=by unfold fm;rw[ej G,ej bO,oj,M];rfl
  rw[B];exact iN.shut (m:={m with l:=_,fL:=_}) u
 .have u:=u.p3.p3.p2.p3;have B:fm m cell n={m with l:=m.l.set cell.toNat n}:=by unfold fm;rw[ej G,ei bO]
  rw[B];exact iN.shut (m:={m with l:=_,fL:=_}) u
 intro _ u _;exact⟨by rw[G];rfl,u.mut⟩
def SQ(m:Mem)(cut:List Int):Bool:=decide ((cut.length:Int)=fW m.of)&&(u7 cut.length).all λi=>decide (0<=cut.getD i 0/\cut.getD i 0<=(m.fL i).length)
def pZ(m:Mem)(cut:List Int)(k:Nat):List Int:=(u7 k).foldl (λo (i:Nat)=>nR o ((m.fL i).take (cut.getD i 0).toNat)) m.kept
def fC(m:Mem)(cut:List Int):Option (List Int):=if SQ m cut=true then some (pZ m cut cut.length)else none
theorem vc(m:Mem)(cut:List Int)(k:Nat):pZ m cut (k+1)=nR (pZ m cut k) ((m.fL k).take (cut.getD k 0).toNat):=by
 unfold pZ;rw[Kl,FA];rfl
theorem pg(m:Mem)(cut:List Int):∀k,(pZ m cut k).length=m.kept.length
 | 0=>rfl
 | k+1=>by rw[vc,xF,pg]
def MU{m:Mem}{cut:List Int}{k:Nat}{c:Int}(hc:cut[k]?=some c)(h:¬ (0<=c/\c<=(m.fL k).length)):fC m cut=none:=by
 unfold fC;grind[SQ,pZ]
def MV{m:Mem}{cut:List Int}(h:(cut.length:Int)≠fW m.of):fC m cut=none:=by
 unfold fC SQ;grind
def HS{m:Mem}{cut:List Int}(h:(cut.length:Int)=fW m.of)(hc:∀(k:Nat) (c:Int),k<cut.length->cut[k]?=some c->0<=c/\c<=(m.fL k).length):fC m cut=some (pZ m cut cut.length):=by
 unfold fC;grind[SQ,pZ]
def FM(m:Mem)(n:Nat):List Nat:=(u7 n).map fun (i:Nat)=>(m.fL i).length
theorem Ze{m:Mem}{n i:Nat}(h:i<n):(FM m n)[i]?=some (m.fL i).length:=by
 unfold FM;rw[pO,IY h];rfl
def mM(m:Mem)(u:List Int):Mem:={m with kept:=u,l:=u++m.dW.drop u.length,fL:=λ_=>[]}
def C157(p:Nat)(ov fv:Value)(m:Mem)(F:Nat->Prop)(line:Int)(w:World)(Z:(iN p ov fv m).p w F)(hK:∀w',gz F w w'->Bo ov fv m w')(B:wI m)(hb:MB m 1000000):CR 157 [(.pointer (some ⟨p,0,none⟩)),hZ line] w (λv w'=>v=hZ (if FJ m line=true then 0 else 1)/\mU F (iN p ov fv (oh m line)) w w'):=by
 have u:=St.begin Z;obtain⟨lv,kv,pm,u⟩:=iN.open u;have MT:=B.fl;have Ku:=B.MR;have Ag:=B.ll;have yX:=B.kl;have Om:=B.lb;refine oL Tryz.func157 (pl:=auL) ?_;refine⟨λjv w'=>jv=.bool (decide (line<0\/fW m.of<=line))/\St w F [bY p [ov,fv,lv,kv,.map (some pm)],bH lv m.l,bH kv m.kept,rp pm m.fL] w',aR (aC (λ_=>⟨vb (by first|exact(ew bO).symm|exact ga.2 bO),u⟩) λ_=>aV afD u (C148 _ m _ (yH.mk' u.hb (hK _ u.aG) u.p1.dS u.p2.dS u.p3.Xx) B) λ_ _ u=>cR ⟨vb (by first|exact(ew bO).symm|exact ga.2 bO),u⟩),?_⟩
 rintro _ _ ⟨rfl,u⟩ _;refine aC (λW=>?_) (λW=>?_)
 .have u:=u.p3.p3.p3.p3;have G:FJ m line=false:=by unfold FJ;rw[decide_eq_false_iff_not];omega
  unfold oh;rw[G];exact⟨rfl,(iN.shut u).mut⟩
 refine aE (aA sn (aB yU u.hb rfl ?_));obtain⟨J,u⟩:=u.p3.LX (k:=line);refine⟨_,u.p1.Cb Tryz.underlying185 Ld AJ,?_⟩;have Hq:=hb line;refine aK CN u.dS ?_;have u:=u.p3.p3.p4.p4.p4;refine⟨λM x w1=>∃k:Nat,x=hZ (k:Int)/\M=(m.fL line).length-k/\k<=(m.fL line).length/\St w F [bH (j0 J) (m.fL line),LW pm m.fL line J,bH kv (nR m.kept ((m.fL line).take k)),bY p [ov,fv,lv,kv,.map (some pm)],bH lv m.l] w1,⟨_,0,rfl,rfl,l6 _,u⟩,?_⟩;rintro M _ _ ⟨k,rfl,rfl,xq,u⟩ _;refine aR (aC (λY=>?_) λY=>?_)
 .obtain⟨E,I⟩:=gx (m.fL line) (i:=(k:Int).toNat) bO;refine dR u CN bO bO (λ_ xf=>?_);have U:=B.pc line _ (la I);refine gP u RQ xf I (aM u RR λO _ u=>aJ (x:=E) u RQ rfl rfl λ_ u=>aE (aA AI (have u:=u.drew;aB eh u.p4.hb rfl (aA Lq ?_))));have T6:=xF ((m.fL line).take k) m.kept;refine aB (v:=hZ E.cell) bL u.hb rfl (aA Lr (aB (v:=hZ E.n) bL u.hb rfl ?_));obtain⟨va,pf⟩:=gx (nR m.kept ((m.fL line).take k)) (i:=E.cell.toNat) bO
  exact dR u.p3 cS bO bO (λ_ xA=>jw _ u.p3 bL xA bO λ_ u=>aO bO (have u:=u.p1.drop.p4.p4.p2.p4.p4;⟨_,bO,k+1,rfl,rfl,bO,by rw[HQ (j:=k) I];exact u⟩))
 rw[ld bO]at u;refine aE (aA sn (aB yU u.p3.hb rfl ?_));have u:=u.p1.p1.Xy;rw[Ua]at u;refine LZ u rfl Tryz.underlying185 Ld (λ_ _ u=>?_);have u:=u.p1.p3.p3;have G:FJ m line=true:=by unfold FJ;rw[decide_eq_true_eq];omega
 have V:oh m line={m with kept:=nR m.kept (m.fL line),fL:=pR m.fL line []}:=by unfold oh;rw[ej G]
 rw[V,G];exact⟨rfl,(iN.shut (m:={m with kept:=_,fL:=_}) u).mut⟩
def C150(p:Nat)(m:Mem)(cut:List Int)(cv:Value)(w:World)(hm:yH w p m)(E:wI m)(hb:MB m 1000000)(U:dA (λ_=>True) w cv cut)(Zf:cut.length<=1000):CR 150 [(.pointer (some ⟨p,0,none⟩)),cv] w (λv w'=>(fC m cut=none/\v=.tuple #[.slice none 0 0,hZ 1]/\Ext w w')\/∃lC o,fC m cut=some lC/\v=.tuple #[o,hZ 0]/\kV (bH o lC) w w'):=by
 have MS:=hm;obtain⟨ov,fv,lv,kv,pm,c0,c1,c2,c3,Z,hO,Ou,hL,hKp,Y⟩:=hm;have MT:=E.fl;have Ku:=E.MR;have Ag:=E.ll;have yX:=E.kl;have Om:=E.lb;have u:=St.start w;refine eZ Tryz.func150 ?_;refine aK cS (U.ext u.aG) (aV afD u (C148 _ m _ (MS.ext u.aG) E) λI he u=>bX (aC (λ_=>.inl ⟨MV bO,rfl,u.aG⟩) λjs=>dU amT u (C145 _ m _ (MS.ext u.aG) E) λUh _ cJ u=>aK cS (U.ext u.aG) ?_));refine⟨λG x I=>∃k:Nat,x=hZ (k:Int)/\G=cut.length-k/\k<=cut.length/\(∀(i:Nat) (c:Int),i<k->cut[i]?=some c->0<=c/\c<=(m.fL i).length)/\St w aZ [bH Uh (pZ m cut k)] I,⟨_,0,rfl,rfl,l6 _,λ_ _ h=>absurd h bO,u⟩,?_⟩
 rintro G _ w3 ⟨k,rfl,rfl,xq,kG,u⟩ _;refine aR (aC (λkW=>?_) λ_=>.inr ⟨_,_,HS bO (λi c _ hc=>kG i c bO hc),rfl,by rw[show cut.length=k from bO];exact u.fresh⟩);obtain⟨B,J⟩:=gx cut (i:=(k:Int).toNat) bO;refine aQ cS U bO J (λ_ qG=>aD bL (qG.ext u.aG) ⟨λjv w'=>jv=.bool (decide (B<0\/(m.fL k).length<B))/\w3=w',aR (aC (λ_=>⟨Oi bO,rfl⟩) λ_=>aE (aA sn (bN yU (Z.ext u.aG) (Hw Y u.aG Tryz.underlying185 Ld AJ λ_ xA=>aK CN (xA.ext u.aG) (cN ⟨yN bO,rfl⟩))))),?_⟩)
 rintro _ _ ⟨rfl,hw⟩ _;subst hw;refine aC (λ_=>.inl ⟨MU (k:=k) J bO,rfl,u.aG⟩) (λo9=>aE (aA sn (bN yU (Z.ext u.aG) (Hw Y u.aG Tryz.underlying185 Ld AJ λagI wi=>?_))));have hbk:=hb k;have Ok:((m.fL k).take B.toNat).length<=(m.fL k).length:=by rw[l2];omega
 refine jT CN (wi.ext u.aG) bO bO (λaqn Qb=>?_);have JC:=Qb _ wi;refine aK CN (JC.ext u.aG) ?_;refine⟨λG x I=>∃j:Nat,x=hZ (j:Int)/\G=((m.fL k).take B.toNat).length-j/\j<=((m.fL k).take B.toNat).length/\St w aZ [bH Uh (nR (pZ m cut k) (((m.fL k).take B.toNat).take j))] I,⟨_,0,rfl,rfl,l6 _,u⟩,?_⟩;rintro G _ _ ⟨j,rfl,rfl,hj,u⟩ _;refine aR (aC (λSf=>?_) λSf=>?_)
 .obtain⟨M,O⟩:=gx ((m.fL (k:Int)).take B.toNat) (i:=(j:Int).toNat) bO;refine aQ CN JC bO O (λ_ Fb=>?_);have hpc:=E.pc k _ (List.mem_of_mem_take (la O));refine aD RQ (Fb.ext u.aG) (aM u RR λV _ u=>aJ (x:=M) u RQ rfl rfl λ_ u=>aA Lq ?_);have T6:=xF (((m.fL k).take B.toNat).take j) (pZ m cut k);have hil:=pg m cut k;refine aB (v:=hZ M.cell) bL u.hb rfl (aA Lr (aB (v:=hZ M.n) bL u.hb rfl ?_));obtain⟨W,axx⟩:=gx (nR (pZ m cut k) (((m.fL k).take B.toNat).take j)) (i:=M.cell.toNat) bO
  exact dR u.p1 cS bO bO (λ_ Zg=>jw _ u.p1 bL Zg bO λ_ u=>aO bO (have u:=u.p1.drop;⟨_,bO,j+1,rfl,rfl,bO,by rw[HQ (j:=j) O];exact u⟩))
 rw[ld (i:=j) bO]at u;refine aO bO ⟨_,bO,k+1,rfl,rfl,bO,λi c hi hc=>?_,?_⟩
 .by_cases e:i=k
  .subst e;obtain rfl:=oq.inj (hc.symm.trans J);omega
  exact kG i c bO hc
 rw[vc,oj,show cut[k]?=some B from J];exact u
def C86(p:Nat)(ov fv:Value)(m:Mem)(F:Nat->Prop)(cut:List Int)(cv:Value)(w:World)(hF:(iN p ov fv m).p w F)(W:∀w',gz F w w'->Bo ov fv m w')(E:wI m)(hb:MB m 1000000)(hC:∀w',gz F w w'->dA (λ_=>True) w' cv cut)(Zf:cut.length<=1000):CR 86 [(.pointer (some ⟨p,0,none⟩)),cv] w (λv w'=>(fC m cut=none/\v=hZ 1/\mU F (iN p ov fv m) w w')\/∃V,fC m cut=some V/\v=hZ 0/\mU F (iN p ov fv (mM m V)) w w'):=by
 have u:=St.begin hF;obtain⟨lv,kv,pm,u⟩:=iN.open u;have MT:=E.fl;have Ku:=E.MR;have Ag:=E.ll;have Y:=E.kl;have Om:=E.lb;refine oL Tryz.func86 (pl:=P86) ?_;refine dM amU (C150 _ m cut _ _ (yH.mk' u.hb (W _ u.aG) u.p1.dS u.p2.dS u.p3.Xx) E hb (hC _ u.aG) bO) ?_;rintro I _ M
 rcases M with⟨B,rfl,Z⟩|⟨O,J,B,rfl,cJ⟩
 .have u:=u.ext Z;exact aN rfl (aN rfl (bX (ke dD (have u:=u.p3.p3.p3.p3;.inl ⟨B,rfl,(iN.shut u).mut⟩))))
 have u:=u.made cJ;refine aN rfl (aN rfl (bX (fJ dD (aE (aA AI (aT u.p1 eh (dL rfl) u.dS.one λ_ u=>aE (aA sm (have u:=u.drew;aB eh u.hb rfl (aE (aA WA (aB eh u.hb rfl ?_)))))))))));refine L3 u.p2 cS (W _ u.aG).2 bO (λ_ u=>aE (aA sm (aB eh u.p1.hb rfl (L3 u cS u.p2.dS (by rw[l1,List.length_drop];have U:O.length=m.of.length:=(by unfold fC at B;split at B<;>simp at B;rw[<- B,pg];exact Y);omega) λ_ u=>A7 (α:=kr) u λG _ u=>aE (aA sn (aT u.p2 yU (dL rfl) (rfl) λ_ u=>?_))))))
 have u:=u.p4.drop.p4.drop.p1.p3.p3.p3;have U:O.length=m.of.length:=by unfold fC at B;split at B<;>simp at B;rw[<- B,pg];exact Y
 rw[show m.l.drop m.dW.length=[]from List.drop_eq_nil_of_le bO,pd]at u;exact .inr ⟨_,B,rfl,(iN.shut (m:=mM m O) u).mut⟩
def JO(of:List Int)(stays:Int)(dW:List Int):Mem:=⟨of.take stays.toNat,dW,dW,dW.take stays.toNat,λ_=>[]⟩
def psM(m:Mem):List Nat:=FM m (fW m.of).toNat
theorem aed(m:Mem):(psM m).length=(fW m.of).toNat:=by unfold psM FM;simp
def rY{m:Mem}(u:wI m):0<=fW m.of:=by
 unfold fW;split
 .omega
 rename_i h
 have B:m.of.getD (m.of.length-1) 0∈m.of:=cL
 have:=(u.ofr _ B).1
 omega
def C53(of dW:List Int)(stays:Int)(av bv:Value)(w:World)(B:dA (λ_=>True) w av of)(I:dA (λ_=>True) w bv dW)(hlen:of.length=dW.length)(MT:of.length<=20)(iV:0<=stays/\stays<=of.length)(GF:∀(k:Nat) (n:Int),(k:Int)<stays->of[k]?=some n->(n=tP of k\/(0<k/\n=tP of k-1))/\-10<=n/\n<=100):CR 53 [av,hZ stays,bv] w (λv w'=>∃(p:Nat) (ov fv:SV),v=.tuple #[.pointer (some ⟨p,0,none⟩),hZ 0]/\kV (sep (bH (j0 ov) (of.take stays.toNat)) (sep (bH (j0 fv) dW) (iN p (j0 ov) (j0 fv) (JO of stays dW)))) w w'):=by
 have u:=St.start w;refine eZ Tryz.func53 ?_;refine⟨λjv w'=>jv=.bool (decide (of.length≠dW.length\/20<of.length\/stays<0\/of.length<stays))/\w=w',aK cS (B.ext u.aG) (aK cS (I.ext u.aG) (bX (aC (λ_=>⟨Oi bO,rfl⟩) λ_=>aK cS (B.ext u.aG) (cN (aC (λ_=>⟨Oi bO,rfl⟩) λ_=>aR (aC (λ_=>⟨Oi bO,rfl⟩) λ_=>aK cS (B.ext u.aG) (cN ⟨yN bO,rfl⟩))))))),?_⟩;rintro _ w1 ⟨rfl,W⟩ _;subst W;refine aC (λmi=>absurd mi bO) (λmi=>jT cS (B.ext u.aG) bO bO λs_x34 ajq=>?_);have Zh:=ajq _ B
 refine aK cS (Zh.ext u.aG) ?_;refine⟨λmm l x w1=>∃(k:Nat) (last:Int),l=hZ last/\x=hZ (k:Int)/\mm=(of.take stays.toNat).length-k/\k<=(of.take stays.toNat).length/\last=tP of k-1/\-200<=last/\last<=200/\St w aZ [] w1,⟨_,0,-1,rfl,rfl,rfl,l6 _,rfl,bO,bO,u⟩,?_⟩;rintro mm _ _ w2 ⟨k,last,rfl,rfl,rfl,xq,Z,hl7,hl8,u⟩ _;have Ok:(of.take stays.toNat).length=stays.toNat:=by rw[l2];omega
 refine aR (aC (λo9=>?_) λo9=>?_)
 .obtain⟨G,vI⟩:=gx (of.take stays.toNat) (i:=(k:Int).toNat) bO;refine aQ cS Zh bO vI (λ_ xo=>?_)
  have E:of[k]?=some G:=by
   have J:=vI;rw[LD]at J
   split at J
   .exact J
   .cases J
  obtain⟨hl1,Dy,hl3⟩:=GF k _ bO E;refine aD bL (xo.ext u.aG) ⟨λjv w'=>jv=.bool (decide (G≠last+1/\(k=0\/G≠last)))/\w2=w',aO bO (bX (aC (λ_=>aH (aC (λ_=>⟨Oi bO,rfl⟩) λ_=>bX ⟨yN bO,rfl⟩)) λ_=>⟨jvF bO,rfl⟩)),?_⟩;rintro _ _ ⟨rfl,W⟩ _;subst W;refine aC (λCQ=>absurd CQ (by have:=GF k G bO E;simp;omega)) (λCQ=>?_);have hws:tP of (k+1)=G+1:=by unfold tP;rw[ei bO,Nat.add_sub_cancel,oj,E];rfl
  exact aO bO ⟨_,bO,k+1,G,rfl,rfl,rfl,bO,bO,bO,bO,u⟩
 refine jT cS (B.ext u.aG) bO bO (λY ajs=>?_);have V:=ajs _ B;refine dU ON u (C83 _ _ _ (V.ext u.aG) (by first|omega|(rw[l2];omega))) (λx59 _ cJ u=>dU ON u (C83 _ _ _ (I.ext u.aG) (by first|omega|(rw[l2];omega))) λx61 _ cJ u=>dU ON u (C83 _ _ _ (I.ext u.aG) (by first|omega|(rw[l2];omega))) λx63 _ cJ u=>A7 (α:=kr) u λb_x64 _ u=>?_);obtain⟨aju,rfl⟩:=u.p3.fK;obtain⟨U,rfl⟩:=u.p2.fK;obtain⟨axy,rfl⟩:=u.p1.fK;refine pop (Ev _ _ _ _ _ _ _ _ _ _) (nB u λM _ u=>jT cS (I.ext u.aG) bO bO λagW O=>?_)
 have ajx:=O _ I;exact dU ON u (C83 _ _ _ (ajx.ext u.aG) (by first|omega|(rw[l2];omega))) (λ_ _ _ u=>aE (aA AI (aT u.p1 eh (dL rfl) u.dS.one λ_ u=>have u:=iN.shut (m:=JO of stays dW) u.p4.p5.p4.p4.p5.p5;⟨M,aju,U,rfl,(St.join (St.join u.p2).p1).fresh⟩)))
def aee:List Int->Int->Int
 | [],n=>n
 | c::cs,n=>aee cs (BM (BM (n*10000)+c))
def qM(l:List Int)(k:Nat):Int:=aee (l.take k) 0
theorem HT:∀(l:List Int) (c n:Int),aee (l++[c]) n=BM (BM (aee l n*10000)+c)
 | [],_,_=>rfl
 | x::l,c,n=>HT l c _
theorem FN{l:List Int}{k:Nat}{c:Int}(h:l[k]?=some c):qM l (k+1)=BM (BM (qM l k*10000)+c):=by
 unfold qM;rw[tz,h];exact HT _ _ _
def nh(p q:aS):Bool:=decide (q.kind=p.kind)&&decide (q.t=p.t)&&decide (q.i=p.i)&&decide (p.cut.length=0)
def C154(sv fv:Value)(xs:List aS)(φ:aS->Prop)(g:aS->Bool)(w:World)(hL:DL w sv xs)(hf:tN hH w fv φ g)(Z:∀x∈xs,φ x)(hn:xs.length<=1073741824):CR 154 [sv,fv] w (λv w'=>v=hZ (sC g xs)/\Ext w w'):=by
 obtain⟨g0,first,cap,rfl,nz,j7⟩:=hf;have u:=St.start w;refine eZ Tryz.func154 ?_;obtain⟨J,E,B⟩:=hL.open;have O:=B.1;refine aK fO (E.ext u.aG) ?_;refine⟨λm x U=>∃k:Nat,x=hZ (k:Int)/\m=xs.length-k/\k<=xs.length/\(∀y∈xs.take k,g y=false)/\St w aZ [] U,⟨_,0,rfl,rfl,l6 _,ee,u⟩,?_⟩;rintro m _ U ⟨k,rfl,rfl,hk,I,u⟩ _;refine aR (aC (λjL=>?_) λ_=>⟨gQ (n3 .i64) (jg (by rw[ld bO]at I;exact I)).symm,u.aG⟩);obtain⟨iy,V⟩:=gx J (i:=(k:Int).toNat) bO;obtain⟨Y,G⟩:=gx xs (i:=(k:Int).toNat) bO
 obtain⟨Ux,rfl,Uy⟩:=B.2 _ _ _ V G;refine aQ fO E bO V (λ_ ij=>aD j8 (ij.ext u.aG) (gW nz (j7 _ Y U u.aG ⟨Ux,rfl,(Uy.ext u.aG)⟩ (Z _ (la G))) ?_));rintro _ _ ⟨rfl,W⟩;have u:=u.ext W;exact aY (λM=>⟨gQ (n3 .i64) (mh I G M).symm,u.aG⟩) (λM=>aO bO ⟨_,bO,k+1,rfl,rfl,bO,dY I G M,u⟩)
def C89(sv fv:Value)(xs:List aS)(φ:aS->Prop)(g:aS->Bool)(w:World)(B:DL w sv xs)(E:tN hH w fv φ g)(G:∀x∈xs,φ x)(I:xs.length<=1073741824):CR 89 [sv,fv] w (λv w'=>v=.bool (xs.any g)/\Ext w w'):=by
 have u:=St.start w;refine eZ Tryz.func89 ?_;exact aV amW u (C154 _ _ _ _ _ _ (B.ext u.aG) (E.ext u.aG) G bO) (λ_ _ u=>cR ⟨vb (kX _ _),u.aG⟩)
def jJ(m:Mem)(c:Int):Int:=if GJ m c=true then m.l.getD c.toNat 0 else 0
def agZ(p:Nat)(m:Mem)(c:Int)(w:World)(B:yH w p m)(u:wI m):CR 227 [.pointer (some ⟨p,0,none⟩),hZ c] w (λv w'=>v=.tuple #[hZ (jJ m c),hZ (if GJ m c=true then 0 else 1)]/\Ext w w'):=C227 p m c w B u
def HU(m:Mem)(c n:Int):(fm m c n).of=m.of:=by unfold fm;grind
def uq(m:Mem)(c n:Int):(fm m c n).dW=m.dW:=by unfold fm;grind
def aef(m:Mem)(c:Int):(oh m c).of=m.of:=by unfold oh;grind
def MW(m:Mem)(c:Int):(oh m c).dW=m.dW:=by unfold oh;grind
def Bo.write{ov fv:Value}{m:Mem}{w:World}{c n:Int}(h:Bo ov fv m w):Bo ov fv (fm m c n) w:=by grind[Bo,fm]
theorem Bo.out{ov fv:Value}{m:Mem}{w:World}{c:Int}(h:Bo ov fv m w):Bo ov fv (oh m c) w:=by grind[Bo,oh]
def jX(m:Mem)(x:bI):Mem:=if x.kind=3 then fm m x.cell x.n else if x.kind=7 then m else oh m x.line
def tB(t:Int)(x:bI):cI:=if x.kind=3 then⟨12,t,x.cell,x.n,0⟩else if x.kind=7 then⟨14,t,0,0,0⟩else⟨13,t,x.line,0,0⟩
end Go.Proofs.YtpdlpabnlkofmaaGreatDoor
namespace Go.Fw
def ph(F:Nat->Prop)(w0 w':World):Prop:=∀b,F b->w'.heap[b]?=w0.heap[b]?
section
variable {α σ:Type}[Flat σ] [D:Deep α σ] {w w0:World}{A F:Nat->Prop}{L:List HP}{v:Value}{xs:List α}{ts us:List σ}
theorem St.MX{Φ:hM}(B:St w0 A (Fw.eF Φ::L) w):∃F,St w0 A (Fw.eF (ph F w)::L) w/\∀w',ph F w w'->Φ w':=by
 obtain⟨U,F,I,u,E,M,J,G⟩:=B.uc
 exact⟨F,⟨B.aG,U,F,I,⟨λw' h=>h,u.2⟩,E,M,J,G⟩,λw' h=>u.1 w' h⟩
theorem ph.refl(F:Nat->Prop)(w:World):ph F w w:=λ_ _=>rfl
theorem MY(B:∀x y:σ,kp x=kp y->x=y):∀{ts us:List σ},ts.length=us.length->flat ts=flat us->ts=us
 | [],[],_,_=>rfl
 | t::ts,u::us,hl,h=>by
  rw[kP,kP]at h
  have:=List.append_inj h (by rw[zd,zd])
  rw[B _ _ this.1,MY B cL this.2]
 | [],_::_,hl,_=>by simp at hl
 | _::_,[],hl,_=>by simp at hl
theorem dA.func{S Z:Nat->Prop}(u:∀x y:σ,kp x=kp y->x=y)(h:dA S w v ts)(V:dA Z w v us):ts=us:=by
 obtain⟨a,cap,rfl,hc,h3⟩:=h
 obtain⟨a',Db,J,O,B⟩:=V
 simp only[zH.injEq]at J
 obtain⟨rfl,M,rfl⟩:=J
 refine MY u M (List.ext_getElem? λj=>?_)
 have ud:(flat ts).length=(flat us).length:=by rw[dB,dB,M]
 by_cases Y:j<(flat ts).length
 .have E:j<(flat us).length:=bO
  rcases h3 with⟨rfl,_⟩|⟨b,o,rfl,_,h5⟩
  .grind
  rcases B with⟨rfl,_⟩|⟨b',o',I,_,G⟩
  .grind
  simp only[oq.injEq,Addr.mk.injEq,and_true]at I
  obtain⟨rfl,rfl⟩:=I
  have U:=h5 j _ (l0 Y)
  have W:=G j _ (l0 E)
  unfold Cell at U W
  grind
 grind
theorem ph.rd(h:∀w',ph F w w'->DL w' v xs)(J:dA (λ_=>True) w v ts)(hn:ts.length=xs.length):∀w',ph F w w'->dA (λ_=>True) w' v ts:=by
 intro w' V
 have C8:=J
 obtain⟨a,cap,rfl,hc,h3⟩:=J
 rcases h3 with⟨h3,h4⟩|⟨b,o,rfl,h4,h5⟩
 .grind[dA]
 cases ts with
 | nil=>exact⟨_,cap,rfl,hc,.inr ⟨b,o,rfl,λh=>absurd rfl h,λj c B=>by simp[kN]at B⟩⟩
 | cons t ts=>
  by_cases Y:F b
  .exact⟨_,cap,rfl,hc,.inr ⟨b,o,rfl,λ_=>trivial,λj c B=>(h5 j c B).of_eq (V b Y)⟩⟩
  .exfalso
   have h6:DL (ChangeMaps.setBlock w b (.map #[] 0)) (.slice (some ⟨b,o,none⟩) (t::ts).length cap) xs:=h _ λO M=>by
    simp only[ChangeMaps.setBlock];grind
   obtain⟨us,⟨a',Db,G,_,W⟩,U,_⟩:=h6
   simp only[zH.injEq]at G
   obtain⟨rfl,I,rfl⟩:=G
   have Ay:0<(flat us).length:=by rw[dB,<- I];exact abF ee (Zd (α:=σ))
   rcases W with⟨rfl,_⟩|⟨O,o',E,_,Z⟩
   .simp at I
   .simp only[oq.injEq,Addr.mk.injEq,and_true]at E
    obtain⟨rfl,rfl⟩:=E
    have u:=Z 0 _ (l0 Ay)
    have hb:=(h5 0 _ (l0 (by rw[dB];exact abF ee (Zd (α:=σ))))).lt
    unfold Cell World.cell? at u
    dsimp only at u
    rw[kj _ hb]at u
    simp at u
theorem ph.fix(B:∀x y:σ,kp x=kp y->x=y)(h:∀w',ph F w w'->DL w' v xs):∃ts:List σ,ts.length=xs.length/\∀w',ph F w w'->dA (λ_=>True) w' v ts/\gy ts xs w':=by
 obtain⟨ts,J,G⟩:=(h w (ph.refl F w)).open
 refine⟨ts,G.1,λw' E=>?_⟩
 have h1:=ph.rd h J G.1 w' E
 obtain⟨us,u,I⟩:=(h w' E).open
 rw[dA.func B h1 u]at *
 grind
end
section
variable {P:Program}{T:Nat}{cx cy:Bool}{a b:Int}{K:Value->Prop}
theorem Zi(h:0<=a-b/\a-b<=255)(k:K (.int .u8 (a-b))):eU P (kq .sub T cx cy (.int .u8 a) (.int .u8 b)) K:=
 ⟨_,(show pr P (kq .sub T cx cy (.int .u8 a) (.int .u8 b))=some (.int .u8 (a-b))from by
  show some (n3 .u8 (IntKind.u8.wrap (a-b)))=_
  have:IntKind.u8.wrap (a-b)=a-b:=by
   unfold IntKind.wrap;simp[IntKind.bits,IntKind.signed];omega
  rw[this]),k⟩
theorem Uz{src u:TypeId}(h1:P.underlying src=some (.int .u8))(h2:P.underlying u=some (.int .i64))(h:0<=a/\a<=255)(k:K (hZ a)):eU P (convert src u (.int .u8 a)) K:=by
 refine⟨_,?_,k⟩
 unfold convert
 simp only[cX,cZ h1,cZ h2,nj]
 show some (n3 .i64 (IntKind.i64.wrap a))=_
 rw[IntWalk.i64_in _ bO]
end
end Go.Fw
namespace Go.Proofs.YtpdlpabnlkofmaaGreatDoor
open Go.Fw
abbrev PD:=List (Bk×Bool)
def ju(b:Bk)(e:Bool)(p:PD):PD:=match b with
 | .nil=>p
 | .cons x c d r=>(.cons x c d r,e)::p
def gE:PD->PD
 | (.cons _ _ _ r,_)::p=>ju r false p
 | (.nil,_)::p=>p
 | []=>[]
def pj:PD->Option (bQ×Bk×Bk)
 | (.cons x a b _,_)::_=>some (x,a,b)
 | _=>none
def mN(x:bQ)(a:Bk)(p:PD):PD:=if x.n=0 then gE p else ju a false ((.cons {x with n:=x.n-1} a .nil .nil,true)::gE p)
def kC:PD->PD
 | []=>[]
 | (_,e)::p=>if e=true then p else kC p
structure j1 where
 names:List ByteArray
 dQ:List Int
 cE:PD
 fault:Int
 buf:List bI
def eJ(t:j1)(l:List cA):Int×Bool:=if l.length=0 then(0,true)else((pU t.names t.dQ l).1,decide ((pU t.names t.dQ l).2=0))
def pk(t:j1)(s:ByteArray)(n:Int):j1:={t with dQ:=t.dQ.set (cU t.names s).toNat n}
def qN(t:j1)(x:bQ)(a b:Bk)(n:Int):j1×Bool:=
 if x.kind=1 then({pk t x.eG n with cE:=gE t.cE},true)
 else if x.kind=11 then({t with cE:=ju (if n=0 then b else a) false (gE t.cE)},true)
 else if x.kind=12 then({t with cE:=mN x a t.cE},true)
 else if x.kind=13 then({t with cE:=kC t.cE},true)
 else if x.kind=14 then(if n=0 then({t with fault:=1},false)else({t with cE:=gE t.cE},true))
 else(t,false)
def qO(t:j1):j1×Bool:=match pj t.cE with
 | none=>(t,false)
 | some (x,a,b)=>if (eJ t x.e).2=true/\(eJ t x.f).2=true then qN t x a b (eJ t x.e).1 else({t with fault:=2},false)
def tC:Nat->j1->Option j1
 | 0,_=>none
 | n+1,t=>if (qO t).2=true then tC n (qO t).1 else some (qO t).1
def l4:Bk->Nat
 | .nil=>0
 | .cons x a b r=>(if x.kind=12 then x.n.toNat*(l4 a+1)else l4 a+l4 b)+l4 r+1
def gX(p:PD):Nat:=(p.map λq=>l4 q.1).sum
theorem qc(q:Bk×Bool)(p:PD):gX (q::p)=l4 q.1+gX p:=by simp[gX]
def Dj(φ:bQ->Prop):Bk->Prop
 | .nil=>True
 | .cons x a b r=>φ x/\Dj φ a/\Dj φ b/\Dj φ r
theorem UA{φ:bQ->Prop}:∀t:Bk,Dj φ t↔∀x∈t.flat,φ x:=by
 intro t
 induction t with
 | nil=>simp[Dj,Bk.flat]
 | cons x a b r B E u=>
  simp only[Dj,Bk.flat,B,E,u,s4,List.mem_append]
  grind
structure FP(φ:bQ->Prop)(p:PD):Prop where
 ne:∀q∈p,q.1≠.nil
 st:∀q∈p,q.1.str
 al:∀q∈p,Dj φ q.1
section
variable {φ:bQ->Prop}{p:PD}{b:Bk}{e:Bool}
theorem FP.tail{q:Bk×Bool}(h:FP φ (q::p)):FP φ p:=⟨λq u=>h.ne q (r6 _ u),λq u=>h.st q (r6 _ u),λq u=>h.al q (r6 _ u)⟩
theorem FP.push(h:FP φ p)(E:b.str)(B:Dj φ b):FP φ (ju b e p):=by
 cases b with
 | nil=>exact h
 | cons x c d r=>
  refine⟨?_,?_,?_⟩<;>intro q u<;>rcases s4.1 u with rfl|u
  .intro G;cases G
  .exact h.ne q u
  .exact E
  .exact h.st q u
  .exact B
  .exact h.al q u
theorem FP.pop(h:FP φ p):FP φ (gE p):=by
 match p,h with
 | [],h=>exact h
 | (.nil,_)::p,h=>exact h.tail
 | (.cons x a b r,_)::p,h=>
  have u:=h.st _ (o6 ..)
  have B:=h.al _ (o6 ..)
  exact h.tail.push u.2.2.2.2.2.2 B.2.2.2
theorem FP.leave:∀{p:PD},FP φ p->FP φ (kC p)
 | [],h=>h
 | (_,e)::p,h=>by
  unfold kC;split
  .exact h.tail
  .exact h.tail.leave
theorem HV{x:bQ}{a b:Bk}(h:pj p=some (x,a,b)):∃r e u,p=(.cons x a b r,e)::u:=by
 match p,h with
 | (.cons y c d r,e)::u,h=>cases h;grind
theorem HW(u:FP φ p)(h:pj p=none):p=[]:=by
 match p,u,h with
 | [],_,_=>rfl
 | (.nil,_)::_,u,_=>exact absurd rfl (u.ne _ (o6 ..))
theorem sR:gX (ju b e p)=l4 b+gX p:=by
 cases b with
 | nil=>simp[ju,l4]
 | cons x c d r=>exact qc _ _
theorem MZ:∀p:PD,gX (kC p)<=gX p
 | []=>pb _
 | (b,e)::p=>by
  have:=MZ p
  grind[gX,kC]
theorem UB(h:b≠.nil):1<=l4 b:=by
 cases b with
 | nil=>grind
 | cons x c d r=>unfold l4;omega
theorem DV(h:FP φ p):p.length<=gX p:=by
 induction p with
 | nil=>simp
 | cons q p u=>
  have:=UB (h.ne q (o6 ..))
  have:=u h.tail
  rw[qc,o1];omega
theorem sS{x:bQ}{a b r:Bk}:l4 (.cons x a b r)=(if x.kind=12 then x.n.toNat*(l4 a+1)else l4 a+l4 b)+l4 r+1:=rfl
theorem Qn{x:bQ}{a b r:Bk}{u:PD}(h:p=(.cons x a b r,e)::u):gX (gE p)+1<=gX p:=by
 subst h
 show gX (ju r false u)+1<=_
 rw[sR,qc,sS];omega
end
structure sT(φ:bQ->Prop)(t:j1):Prop where
 p:FP φ t.cE
 rl:t.dQ.length=t.names.length
 nb:t.names.length<=1000
 bl:t.buf.length<=1000
 cl:gX t.cE<=10000
structure UC(cs ls ns:List ByteArray)(x:bQ):Prop where
 k:1<=x.kind/\x.kind<=14
 e:x.e.length<=1000/\x.f.length<=1000
 n:x.kind=12->0<=x.n/\x.n<=1000
 el:¬ x.kind=11->x.ey<=0
 rg:x.kind=1\/x.kind=2\/x.kind=4->0<=cU ns x.eG
 cl:x.kind=2\/x.kind=3\/x.kind=4->0<=cU cs x.name
 lk:x.kind=9\/x.kind=10->0<=cU ls x.name
 nm:(∀y∈x.e,y.name.size<=1000)/\∀y∈x.f,y.name.size<=1000
abbrev yv(cs ls:List ByteArray)(t:j1):Prop:=sT (UC cs ls t.names) t
section
variable {φ:bQ->Prop}{cs ls:List ByteArray}{t t' tR:j1}{x:bQ}{a b:Bk}{n:Int}{k:Nat}
theorem sT.cE{p:PD}(h:sT φ t)(u:FP φ p)(hc:gX p<=gX t.cE):sT φ {t with cE:=p}:=⟨u,h.rl,h.nb,h.bl,xe hc h.cl⟩
theorem sT.flt(h:sT φ t)(n:Int):sT φ {t with fault:=n}:=⟨h.p,h.rl,h.nb,h.bl,h.cl⟩
theorem sT.set(h:sT φ t)(s:ByteArray)(n:Int):sT φ (pk t s n):=⟨h.p,by simp[pk,h.rl],h.nb,h.bl,h.cl⟩
theorem sT.top(h:sT φ t)(ht:pj t.cE=some (x,a,b)):φ x/\a.str/\b.str/\Dj φ a/\Dj φ b/\x.body=a.len/\x.ey=b.len/\a.len<=40/\∃r e p,t.cE=(.cons x a b r,e)::p/\r.str/\Dj φ r:=by
 obtain⟨r,e,p,u⟩:=HV ht
 have h1:=h.p
 rw[u]at h1
 obtain⟨M,E,Y,O,I,G,J⟩:=h1.st _ (o6 ..)
 obtain⟨B,V,U,W⟩:=h1.al _ (o6 ..)
 grind
theorem aeg(h:yv cs ls t)(ht:pj t.cE=some (x,a,b)):yv cs ls (qN t x a b n).1/\(qN t x a b n).1.names=t.names/\((qN t x a b n).2=true->gX (qN t x a b n).1.cE+1<=gX t.cE):=by
 obtain⟨B,W,sb,V,ab,hb,he,Y,r,e,p,I,sr,ar⟩:=h.top ht
 have E:=h.p.pop
 have U:=Qn (r:=r) I
 have u:gX t.cE=l4 (.cons x a b r)+gX p:=by rw[I,qc]
 have M:gE t.cE=ju r false p:=by rw[I];rfl
 have O:gX (gE t.cE)=l4 r+gX p:=by rw[M,sR]
 rw[sS]at u
 unfold qN
 split
 .exact⟨(h.set x.eG n).cE E (by show gX (gE t.cE)<=gX t.cE;omega),rfl,λ_=>U⟩
 split
 .rename_i Un
  rw[ei bO]at u
  have hc:gX (ju (if n=0 then b else a) false (gE t.cE))+1<=gX t.cE:=by rw[sR];grind
  refine⟨h.cE (FP.push E ?_ ?_) bO,rfl,λ_=>hc⟩<;>split<;>assumption
 split
 .rename_i Un
  rw[ej Un]at u
  have hxn:=B.n Un
  have Lv:=B.el bO
  unfold mN
  split
  .exact⟨h.cE E bO,rfl,λ_=>U⟩
  rename_i VG
  have J:gX (ju a false ((.cons {x with n:=x.n-1} a .nil .nil,true)::gE t.cE))+1<=gX t.cE:=by
   rw[sR,qc,sS,ej (by exact Un),u,O]
   have e:x.n.toNat=(x.n-1).toNat+1:=bO
   rw[e,Nat.succ_mul]
   show l4 a+((x.n-1).toNat*(l4 a+1)+l4 .nil+1+_)+1<=_
   simp only[l4];omega
  refine⟨h.cE (FP.push ⟨?_,?_,?_⟩ W V) bO,rfl,λ_=>J⟩<;>intro q G<;>rcases s4.1 G with rfl|G
  .grind
  .exact E.ne q G
  .exact⟨hb,by show x.ey=((0:Nat):Int);omega,Y,l6 _,W,trivial,trivial⟩
  .exact E.st q G
  .exact⟨⟨B.k,B.e,λhk=>⟨cL,cL⟩,B.el,B.rg,B.cl,B.lk,B.nm⟩,V,trivial,trivial⟩
  exact E.al q G
 split
 .have hl:gX (kC t.cE)+1<=gX t.cE:=by
   rw[u,I];unfold kC
   have:=MZ p
   grind
  exact⟨h.cE h.p.leave bO,rfl,λ_=>hl⟩
 split
 .split
  .exact⟨h.flt 1,rfl,λZ=>by cases Z⟩
  exact⟨h.cE E bO,rfl,λ_=>U⟩
 grind
theorem DW(h:yv cs ls t):yv cs ls (qO t).1/\(qO t).1.names=t.names/\((qO t).2=true->gX (qO t).1.cE+1<=gX t.cE):=by
 unfold qO
 cases ht:pj t.cE with
 | none=>grind
 | some q=>
  obtain⟨x,a,b⟩:=q
  dsimp only
  split
  .exact aeg h ht
  .exact⟨h.flt 2,rfl,λu=>by cases u⟩
theorem HX:∀(n:Nat) {t:j1},yv cs ls t->gX t.cE<n->∃tR,tC n t=some tR/\yv cs ls tR/\tR.names=t.names
 | 0,_,_,hc=>by omega
 | n+1,t,h,hc=>by
  obtain⟨h1,h2,h3⟩:=DW h
  unfold tC
  split
  .rename_i hs
   have:=h3 hs
   have h4:yv cs ls (qO t).1:=by have:=h1;rw[yv,h2]at this |-;exact this
   obtain⟨tR,B,u,E⟩:=HX n h4 bO
   exact⟨tR,B,u,E.trans h2⟩
  grind
def goD(t:j1):j1:=(tC (gX t.cE+1) t).getD t
theorem qP(h:yv cs ls t):tC (gX t.cE+1) t=some (goD t)/\yv cs ls (goD t)/\(goD t).names=t.names:=by
 obtain⟨tR,B,u,E⟩:=HX (gX t.cE+1) h (K9 _)
 unfold goD
 grind
theorem HY{n:Nat}(h:tC n t=some tR):∃k,n=k+1:=by
 cases n with
 | zero=>cases h
 | succ k=>grind
theorem SR(h:tC (k+1) t=some tR)(u:qO t=(t',true)):tC k t'=some tR:=by
 unfold tC at h;rw[u]at h;exact h
theorem po(h:tC (k+1) t=some tR)(u:qO t=(t',false)):tR=t':=by
 unfold tC at h;rw[u]at h;exact(oq.inj h).symm
theorem SS:∀(n:Nat) {t tR:j1},tC n t=some tR->yv cs ls t->tR.fault=0->∀x a b,pj tR.cE=some (x,a,b)->(2<=x.kind/\x.kind<=10)/\(eJ tR x.e).2=true/\(eJ tR x.f).2=true
 | 0,_,_,B,_,_,_,_,_,_=>by cases B
 | n+1,t,tR,B,h,u,x,a,b,ht=>by
  obtain⟨h1,h2,_⟩:=DW h
  unfold tC at B
  split at B
  .exact SS n B bO u x a b ht
  .rename_i hs
   cases B
   have hb:(qO t).2=false:=by simpa using hs
   unfold qO at hb u ht
   cases hq:pj t.cE with
   | none=>rw[hq]at ht;dsimp only at ht;rw[hq]at ht;cases ht
   | some q=>
    obtain⟨y,c,d⟩:=q
    rw[hq]at hb u ht
    dsimp only at hb u ht
    have E:=(h.top hq).1.k
    split at hb
    .rename_i hv
     rw[ej hv]at u ht
     unfold qN at hb u ht
     split at hb
     .cases hb
     rename_i k1
     rw[ei k1]at u ht
     split at hb
     .cases hb
     rename_i k2
     rw[ei k2]at u ht
     split at hb
     .cases hb
     rename_i k3
     rw[ei k3]at u ht
     split at hb
     .cases hb
     rename_i k4
     rw[ei k4]at u ht
     split at hb
     .rename_i k5
      rw[ej k5]at u
      split at hb
      .rename_i k6;rw[ej k6]at u;cases u
      .cases hb
     .rename_i k5
      rw[ei k5]at ht
      rw[hq]at ht;cases ht
      have e:(qO t).1=t:=by unfold qO;rw[hq];dsimp only;rw[ej hv];unfold qN;rw[ei k1,ei k2,ei k3,ei k4,ei k5]
      rw[e]
      exact⟨bO,hv⟩
    .rename_i hv
     rw[ei hv]at u;cases u
section
variable {e:Int}
theorem Zj(h:x.kind=1):qN t x a b e=({pk t x.eG e with cE:=gE t.cE},true):=by unfold qN;grind
theorem JP(h:x.kind=11):qN t x a b e=({t with cE:=ju (if e=0 then b else a) false (gE t.cE)},true):=by unfold qN;simp[h]
theorem SU(h:x.kind=12):qN t x a b e=({t with cE:=mN x a t.cE},true):=by unfold qN;simp[h]
theorem SW(h:x.kind=13):qN t x a b e=({t with cE:=kC t.cE},true):=by unfold qN;simp[h]
theorem M4(h:x.kind=14)(u:e=0):qN t x a b e=({t with fault:=1},false):=by unfold qN;grind
theorem M5(h:x.kind=14)(u:¬ e=0):qN t x a b e=({t with cE:=gE t.cE},true):=by unfold qN;grind
theorem SX(h1:¬ x.kind=1)(h2:¬ x.kind=11)(h3:¬ x.kind=12)(h4:¬ x.kind=13)(h5:¬ x.kind=14):qN t x a b e=(t,false):=by grind[qN]
end
theorem Zk(h:pj t.cE=none):qO t=(t,false):=by unfold qO;rw[h]
theorem Zl(h:pj t.cE=some (x,a,b))(h2:(eJ t x.e).2=false):qO t=({t with fault:=2},false):=by unfold qO;grind
theorem Zm(h:pj t.cE=some (x,a,b))(h3:(eJ t x.f).2=false):qO t=({t with fault:=2},false):=by unfold qO;grind
theorem Zn(h:pj t.cE=some (x,a,b))(h2:(eJ t x.e).2=true)(h3:(eJ t x.f).2=true):qO t=qN t x a b (eJ t x.e).1:=by unfold qO;grind
end
def Qo(u:Option Addr)(G E:Nat)(B:Bool):pr hH (mL 143 [(0,.slice u G E),(1,.bool B)].toArray)=some (.agg [.slice u G E,.bool B].toArray):=by kernel_rfl
structure xH where
 l:SV
 JQ:Bool
instance:Flat xH where
 agg:=true
 sz:=2
 enc e:=[.slice e.l.a e.l.n e.l.cap,.bool e.JQ]
 val e:=.agg [.slice e.l.a e.l.n e.l.cap,.bool e.JQ].toArray
 pos:=dD
 len _:=rfl
 one a v h:=by simp at h;rcases h with rfl|rfl<;>rfl
 nD _ _:=rfl
 nX h:=by cases h
variable (w:World) (K:Value->hM)
def S137(I:Value):Prop:=
 aL 193 w λa b=>nC I λc=>fA 138 c 3 λd=>lA 136 d b λe=>lN 136 e λf=>bB .eql 3 f (i 0) λg=>cV g (eU hH (mL 193 [].toArray) λh=>sA 193 a h b λj=>
 lA 193 a j λr=>K (.tuple #[r,(.slice none 0 0),(.slice none 0 0),ff]) j) (nC I λk=>fA 138 k 3 λl=>lA 136 l (drew b) λn=>nC I λo=>fA 138 o 3 λp=>lA 136 p (drew b) λq=>
 lN 136 q λs=>bB .sub 3 s (i 1) λt=>iA 136 n t λu=>fA 143 u 0 λv=>lA 141 v (drew b) λx=>iA 141 x (i 0) λy=>lA 193 y (drew b) λz=>aL 193 (drew b) λB O=>
 sA 193 B z O λE=>fA 193 B 6 λV=>lA 3 V E λU=>bC .add 3 (i 1) U λG=>fA 193 B 7 λag=>lA 3 ag E λah=>bA .add 3 G ah λJ=>lA 193 B (drew E) λW=>
 eU hH (ob 141 x (some (i 1)) (some G) (some G)) λZ=>eU hH (ob 141 x (some G) (some J) (some J)) λal=>sA 193 a W (drew E) λM=>
 lA 193 a M λY=>K (.tuple #[Y,Z,al,tt]) M)
def axA:dI:=λi=>match i with
 | 3=>.run 0 14
 | 7=>.run 0 14
 | _=>.nil
theorem aei(u:Value)(h:S137 w K u):CR 137 [u] w K:=
 qW 50 axA 60 [.cell 2 193,.tmp 3,.tmp 4,.tmp 5] Tryz.func137 h
def axB:dI:=λi=>match i with
 | 3=>.run 0 14
 | _=>.nil
def S197(B:Value):Prop:=
 kM (λE O a=>∀_:Env,
 fg (λK2=>eU hH (Op.unary .not O) λb=>cV b (nC B λc=>fA 138 c 3 λd=>lA 136 d a λe=>lN 136 e λf=>bB .gtr 3 f (i 0) λg=>K2 g a) (K2 ff a))
 (λh j=>∀_:Env,
 cV h (nC B λk=>fA 138 k 3 λl=>lA 136 l j λn=>lN 136 n λo=>bB .sub 3 o (i 1) λp=>nC B λq=>fA 138 q 3 λr=>lA 136 r j λs=>iA 136 s p λt=>fA 143 t 1 λu=>
 lA 4 u j λv=>nC B λx=>fA 138 x 3 λy=>lA 136 y j λz=>eU hH (ob 136 z none (some p) (some p)) λI=>nC B λG=>fA 138 G 3 λM=>sA 136 M I j λJ=>
 E v J) (K (.tuple #[]) j))) (λE=>E ff w)
theorem aej(u:Value)(h:S197 w K u):CR 197 [u] w K:=
 qW 38 (λ_=>.nil) 0 [] Tryz.func197 h
def S161(u E:Value):Prop:=
 lN 82 E λa=>bB .eql 3 a (i 0) λb=>cV b (K (.tuple #[(i 0),tt]) w) (nC u λc=>fA 138 c 1 λd=>lA 91 d (drew w) λe=>nC u λf=>fA 138 f 2 λg=>lA 41 g (drew w) λh=>
 cF 143 [E,e,h] (drew w) λj k=>xT j 0 λl=>xT j 1 λn=>yM (λB=>bB .neq 31 n (i 0) λo=>cV o (nC u λp=>fA 138 p 4 λq=>sA 3 q (i 2) k λr=>B r) (
 B k)) (λs=>∀_:Env,
 bB .eql 31 n (i 0) λt=>K (.tuple #[l,t]) s))
def axC:dI:=λi=>match i with
 | 3=>.run 0 15
 | _=>.nil
theorem aek(B u:Value)(h:S161 w K B u):CR 161 [B,u] w K:=
 qW 32 axC 48 [.tmp 4,.tmp 5] Tryz.func161 h
def S117(B:Value):Prop:=
 Rq (λE a=>∀_:Env,
 cF 137 [B] a λb c=>xT b 0 λd=>xT b 1 λe=>xT b 2 λf=>xT b 3 λg=>aL 193 c λh j=>sA 193 h d j λk=>eU hH (Op.unary .not g) λl=>cV l (K (.tuple #[]) k) (
 fA 193 h 3 λn=>lA 82 n k λo=>cF 161 [B,o] k λp q=>xT p 0 λr=>xT p 1 λs=>eU hH (Op.unary .not s) λt=>cV t (K (.tuple #[]) q) (fA 193 h 4 λu=>lA 82 u q λv=>
 cF 161 [B,v] q λx y=>xT x 0 λ_=>xT x 1 λz=>eU hH (Op.unary .not z) λaa=>cV aa (K (.tuple #[]) y) (fA 193 h 0 λab=>lA 3 ab y λG=>bB .eql 3 G (i 1) λad=>
 cV ad (nC B λae=>fA 138 ae 2 λO=>lA 41 O (drew y) λM=>nC B λah=>fA 138 ah 1 λai=>lA 91 ai (drew y) λaj=>fA 193 h 1 λak=>lA 9 ak (drew y) λal=>
 cF 159 [aj,al] (drew y) λam J=>kA 41 O M J (iA 41 M am λao=>sA 3 ao r J λap=>cF 164 [B] ap λ_ aq=>E aq)) (bB .eql 3 G (i 11) λar=>cV ar (cF 164 [B] y λ_ asx=>
 fg (λK2=>bB .eql 3 r (i 0) λZ=>cV Z (K2 f asx) (K2 e asx)) (λI av=>∀_:Env,
 cF 116 [B,I,ff] av λ_ W=>E W)) (bB .eql 3 G (i 12) λU=>cV U (lA 193 h y λay=>cF 196 [B,ay,e] y λ_ az=>E az) (bB .eql 3 G (i 13) λV=>cV V (cF 197 [B] y λ_ a1=>
 E a1) (bB .eql 3 G (i 14) λa2=>cV a2 (bB .eql 3 r (i 0) λa3=>cV a3 (nC B λY=>fA 138 Y 4 λa5=>sA 3 a5 (i 1) y λa6=>K (.tuple #[]) a6) (cF 164 [B] y λ_ a7=>
 E a7)) (K (.tuple #[]) y))))))))) (λE=>E w)
def axD:dI:=λi=>match i with
 | 8=>(.of [(0,[]),(1,[]),(2,[]),(3,[]),(4,[]),(5,[]),(6,[]),(7,[]),(8,[]),(9,[]),(11,[]),(10,[3]),(12,[]),(13,[])])
 | _=>.nil
theorem ael(u:Value)(h:S117 w K u):CR 117 [u] w K:=
 qW 83 axD 0 [] Tryz.func117 h
theorem M6:PL 116:=dJ Tryz.func116
theorem Zp:PL 137:=dJ Tryz.func137
theorem M7:PL 164:=dJ Tryz.func164
theorem aqS:PL 196:=dJ Tryz.func196
theorem aqT:PL 197:=dJ Tryz.func197
theorem M8:PL 161:=dJ Tryz.func161
theorem ag1:PL 117:=dJ Tryz.func117
theorem ag2:PL 141:=dJ Tryz.func141
end Go.Proofs.YtpdlpabnlkofmaaGreatDoor
namespace Go.Fw
section
variable {P:Program}{w w0:World}{A S:Nat->Prop}{L:List HP}
theorem z6{n cap l h m:Nat}{lo hi u:Option Value}(M:lo=none/\l=0\/∃i:Int,lo=some (hZ i)/\0<=i/\l=i.toNat)(I:∃i:Int,hi=some (hZ i)/\0<=i/\h=i.toNat)(G:∃i:Int,u=some (hZ i)/\0<=i/\m=i.toNat)
  (h1:l<=h) (h2:h<=m) (h3:m<=cap):pr P (v7 true n cap lo hi u)=some (l,h,m):=by
 obtain⟨j,rfl,E,rfl⟩:=I
 obtain⟨k,rfl,B,rfl⟩:=G
 rcases M with⟨rfl,rfl⟩|⟨i,rfl,J,rfl⟩<;>simp only[v7,cX,fS,nj]
 .rw[jo B bO];simp only[nj];rw[jo E bO];rfl
 rw[jo B bO];simp only[nj];rw[jo E bO];simp only[nj];rw[jo J bO];rfl
theorem JR{T E sz I:Nat}{z:Option Nat}{a:Option Addr}{n cap l h m:Nat}{lo hi u:Option Value}(ht:eQ P T=some (E,sz,I,z))
  (hb:pr P (v7 true n cap lo hi u)=some (l,h,m)) :
  pr P (ob T (.slice a n cap) lo hi u)=some (.slice (if m=l then a else a.map (·.add (l*sz))) (h-l) (m-l)):=by
 obtain⟨B,M,G,J,_⟩:=fp ht
 unfold ob
 rw[cX,cZ B]
 simp only[nj]
 unfold Instr.slice
 rw[cX,cZ B]
 simp only[nj]
 rw[cX,hb]
 simp only[nj]
 rw[cX,mX G,J]
 rfl
variable {α:Type}[Flat α] {xs:List α}
theorem dA.aqU{v:Value}{a:Option Addr}{n cap l h:Nat}(G:v=.slice a n cap)(O:dA S w v xs)(h1:l<=h)(h2:h<=xs.length) :
  dA S w (.slice (if h=l then a else a.map (·.add (l*m8 α))) (h-l) (h-l)) ((xs.take h).drop l):=by
 obtain⟨Y,Z,M,V,h3⟩:=O
 rw[M]at G
 simp only[zH.injEq]at G
 obtain⟨rfl,U,rfl⟩:=G
 have hlen:((xs.take h).drop l).length=h-l:=by simp;omega
 rcases h3 with⟨I,W⟩|⟨b,o,rfl,h4,h5⟩
 .subst I
  exact⟨_,h-l,by rw[hlen],ee,.inl ⟨ee,by simp at h2;omega⟩⟩
 refine⟨_,h-l,by rw[hlen],by rw[hlen];exact pb _,.inr ?_⟩
 have J:(xs.take h).drop l≠[]->xs≠[]:=λE B=>E (by rw[B];simp)
 by_cases E:h=l
 .rw[ej E]
  refine⟨b,o,rfl,λB=>h4 (J B),λj c u=>?_⟩
  have:((xs.take h).drop l)=[]:=by rw[<- sl,hlen];omega
  rw[this]at u;simp[kN]at u
 rw[ei E]
 refine⟨b,o+l*m8 α,by simp[gI],λB=>h4 (J B),λj c u=>?_⟩
 rw[Hd,Hc,Jo,LD]at u
 split at u
 .have:=h5 _ c u
  rwa [show o+(l*m8 α+j)=o+l*m8 α+j from bO]at this
 cases u
theorem M9{T E G:Nat}{z:Option Nat}{v:Value}{i j:Int}{K:Value->Prop}(ht:eQ P T=some (E,m8 α,G,z))(J:dA S w v xs)
  (I:0<=i) (h1:i<=j) (h2:j<=xs.length) (k:∀B,(∀w' (ys:List α),dA S w' v ys->dA S w' B ((ys.take j.toNat).drop i.toNat))->K B):eU P (ob T v (some (hZ i)) (some (hZ j)) (some (hZ j))) K:=by
 obtain⟨a,cap,rfl,M,h3⟩:=J
 refine⟨_,JR ht (z6 (.inr ⟨i,rfl,I,rfl⟩) ⟨j,rfl,bO,rfl⟩ ⟨j,rfl,bO,rfl⟩ bO (pb _) bO),k _ λw' ys u=>u.aqU rfl bO ?_⟩
 obtain⟨_,_,h4,_⟩:=u
 grind
theorem FQ{T E G:Nat}{z:Option Nat}{v:Value}{i:Int}{K:Value->Prop}(ht:eQ P T=some (E,m8 α,G,z))(J:dA S w v xs)
  (I:0<=i) (h2:i<=xs.length) (k:∀B,(∀w' (ys:List α),dA S w' v ys->dA S w' B (ys.drop i.toNat))->K B):eU P (ob T v (some (hZ i)) none none) K:=by
 obtain⟨a,cap,rfl,M,h3⟩:=J
 refine⟨_,wO ht (oy (.inr ⟨i,rfl,I,rfl⟩) (.inl ⟨rfl,rfl⟩) bO bO),k _ λw' ys u=>?_⟩
 have O:ys.length=xs.length:=by
  obtain⟨_,_,h4,_⟩:=u
  grind
 have:=u.cut rfl (show i.toNat<=ys.length by omega) (pb _)
 grind
theorem CY{T E U:Nat}{z:Option Nat}{v:Value}{i:Int}{K:Value->Prop}(ht:eQ P T=some (E,m8 α,U,z))
  (J:St w0 A (bH v xs::L) w) (M:0<=i) (h1:i<=xs.length) (k:∀O,St w0 A (bH O (xs.take i.toNat)::L) w->K O):eU P (ob T v none (some (hZ i)) (some (hZ i))) K:=by
 obtain⟨a,cap,u,Z,_⟩:=J.dS
 refine⟨_,(by rw[u];exact JR ht (z6 (.inl ⟨rfl,rfl⟩) ⟨i,rfl,M,rfl⟩ ⟨i,rfl,M,rfl⟩ (l6 _) (pb _) bO)),k _ ?_⟩
 refine J.rF λF G=>?_
 rcases G with⟨B,W,V⟩|⟨b,Db,rest,Y,hb,hl,G⟩
 .rw[B]at u
  subst W
  simp only[zH.injEq]at u
  obtain⟨rfl,_,rfl⟩:=u
  have hi:i.toNat=0:=by simp at h1;omega
  refine⟨F,.inl ⟨?_,ee,V⟩,λb hb=>.inl hb,gz.refl _ _⟩
  rw[hi];rfl
 rw[Y]at u
 simp only[zH.injEq]at u
 obtain⟨rfl,_,rfl⟩:=u
 have I:(xs.take i.toNat).length=i.toNat:=by rw[l2];omega
 refine⟨F,.inr ⟨b,i.toNat,flat (xs.drop i.toNat)++rest,?_,?_,⟨bO,?_⟩,G⟩,λb hb=>.inl hb,gz.refl _ _⟩
 .rw[I]
  simp[gI]
 .rw[<- n5,<- gJ,List.take_append_drop];exact hb
 rw[l1,dB,I];omega
end
end Go.Fw
namespace Go.Proofs.YtpdlpabnlkofmaaGreatDoor
open Go.Fw
def rA(K:hM)(sv:SV)(rows:List bE)(l:List bQ)(w:World):Prop:=(∀w',K w'->gy rows l w')/\(K w->dA (λ_=>True) w (j0 sv) rows)
abbrev PE:=List (xH×List bE)
def DX(K:hM)(w:World):PE->PD->Prop
 | [],[]=>True
 | e::es,q::p=>(e.1.JQ=q.2/\rA K e.1.l e.2 q.1.flat w)/\DX K w es p
 | _,_=>False
def Ov(es:PE):List xH:=(es.map Prod.fst).reverse
theorem Zq(e:xH×List bE)(es:PE):Ov (e::es)=Ov es++[e.1]:=by simp[Ov]
theorem rL(es:PE):(Ov es).length=es.length:=by simp[Ov]
theorem DX.len{K:hM}{w:World}:∀{es:PE}{p:PD},DX K w es p->es.length=p.length
 | [],[],_=>rfl
 | e::es,q::p,h=>by have:=DX.len h.2;simp[this]
 | [],_::_,h=>h.elim
 | _::_,[],h=>h.elim
def eR(K Φ:hM)(p:Nat)(room:Int)(t:j1):HP:=pM λu:Nat=>pM λB:SV=>pM λrg=>pM λpl=>pM λes:PE=>fact (∀w,K w->dA (λ_=>True) w (j0 B) t.names)
 (sep (bY p [.pointer (some ⟨u,0,none⟩),j0 B,rg,pl,hZ t.fault]) (sep (jk u room t.buf) (sep (bH rg t.dQ) (sep (bH pl (Ov es)) (eF λw=>DX K w es t.cE/\Φ w)))))
abbrev rM(K:hM)(p:Nat)(room:Int)(t:j1):HP:=eR K (λ_=>True) p room t
section
variable {w w0:World}{A:Nat->Prop}{R:List HP}{p:Nat}{K Φ Ψ:hM}{room:Int}{t:j1}
theorem sU{H1 H2 B u E:HP}(G:St w0 A (sep H1 (sep H2 (sep B (sep u E)))::R) w):St w0 A (H1::H2::B::u::E::R) w:=by
 have h1:=G.split
 have h2:=h1.p1.split
 have h3:=h2.p1.split
 have h4:=h3.p1.split
 exact h4.p2.p3.p4
theorem sV{H1 H2 B u E:HP}(G:St w0 A (H1::H2::B::u::E::R) w):St w0 A (sep H1 (sep H2 (sep B (sep u E)))::R) w:=by
 have h4:=St.join G.p4.p4
 have h3:=St.join h4.p3
 have h2:=St.join h3.p2
 exact St.join h2.p1
abbrev Bp(u:Nat)(B:SV)(rg pl:Value)(f:Int):List Value:=[.pointer (some ⟨u,0,none⟩),j0 B,rg,pl,.int .i64 f]
theorem eR.open(u:St w0 A (eR K Φ p room t::R) w):∃B E rg pl es,(∀w,K w->dA (λ_=>True) w (j0 E) t.names)/\
  St w0 A (bY p (Bp B E rg pl t.fault)::jk B room t.buf::bH rg t.dQ::bH pl (Ov es)::eF (λw=>DX K w es t.cE/\Φ w)::R) w:=by
 obtain⟨B,u⟩:=u.eo;obtain⟨E,u⟩:=u.eo;obtain⟨rg,u⟩:=u.eo;obtain⟨pl,u⟩:=u.eo;obtain⟨es,u⟩:=u.eo;obtain⟨G,u⟩:=u.mC
 exact⟨B,E,rg,pl,es,G,sU u⟩
theorem eR.shut{u:Nat}{B:SV}{rg pl:Value}{es:PE}(E:∀w,K w->dA (λ_=>True) w (j0 B) t.names)
  (G:St w0 A (bY p (Bp u B rg pl t.fault)::jk u room t.buf::bH rg t.dQ::bH pl (Ov es)::eF (λw=>DX K w es t.cE/\Φ w)::R) w):St w0 A (eR K Φ p room t::R) w:=
 St.ep u (St.ep B (St.ep rg (St.ep pl (St.ep es (St.oA E (sV G))))))
theorem eR.mono(u:St w0 A (eR K Φ p room t::R) w)(h:∀w,Φ w->Ψ w):St w0 A (eR K Ψ p room t::R) w:=by
 obtain⟨G,I,rg,pl,es,E,u⟩:=eR.open u
 have h1:=u.p4.dN (Ψ:=λw=>DX K w es t.cE/\Ψ w) λw B=>⟨B.1,h w B.2⟩
 exact eR.shut E h1.p4.p4.p4.p4
theorem eR.now(u:St w0 A (eR K Φ p room t::R) w):Φ w:=by
 obtain⟨B,G,rg,pl,es,E,u⟩:=eR.open u
 exact u.p4.eF.2
theorem eR.rd(h:Has (eR K Φ p room t) w):∃B E rg pl es,(∀w,K w->dA (λ_=>True) w (j0 E) t.names)/\mW w p (Bp B E rg pl t.fault)/\uo w B room t.buf/\dA (λ_=>True) w rg t.dQ/\dA (λ_=>True) w pl (Ov es)/\DX K w es t.cE/\Φ w:=by
 obtain⟨F,u⟩:=h.st
 obtain⟨B,E,rg,pl,es,G,u⟩:=eR.open u
 exact⟨B,E,rg,pl,es,G,u.hb,DU u.p1,u.p2.dS,u.p3.dS,u.p4.eF.1,u.p4.eF.2⟩
theorem jh{E:bE}{x:bQ}(h:ml w E x):∃u B:SV,E=⟨x.kind,x.eG,x.name,u,B,x.n,x.body,x.ey,x.at_⟩/\dA (λ_=>True) w (j0 u) x.e/\dA (λ_=>True) w (j0 B) x.f:=by
 obtain⟨u,B,h1,h2,h3⟩:=h
 exact⟨u,B,h1,DL.flat h2,DL.flat h3⟩
theorem gy.cut{rows:List bE}{l:List bQ}{i j:Nat}(h:gy rows l w):gy ((rows.take j).drop i) ((l.take j).drop i) w:=(h.take j).drop i
theorem apP{x:bQ}{a b r:Bk}(h:(Bk.cons x a b r).str){j:Int}(E:j=1+x.body):(((Bk.cons x a b r).flat.take j.toNat).drop (1:Int).toNat)=a.flat:=by
 obtain⟨B,_⟩:=h
 have u:=a.cY
 rw[vB _ (a:=1) (c:=(1:Int).toNat) (n:=a.flat.length) bO rfl]
 show(a.flat++(b.flat++r.flat)).take _=_
 grind
theorem apQ{x:bQ}{a b r:Bk}(h:(Bk.cons x a b r).str){i j:Int}(hi:i=1+x.body)(G:j=1+x.body+x.ey):(((Bk.cons x a b r).flat.take j.toNat).drop i.toNat)=b.flat:=by
 obtain⟨E,B,_⟩:=h
 have u:=a.cY
 have lb:=b.cY
 rw[vB _ (a:=1+a.flat.length) (n:=b.flat.length) bO bO,<- List.drop_drop]
 show((a.flat++(b.flat++r.flat)).drop _).take _=_
 grind
theorem rA.cut{sv u:SV}{rows:List bE}{l:List bQ}{i j:Nat}(h:rA K sv rows l w)(hc:∀w' (ys:List bE),dA (λ_=>True) w' (j0 sv) ys->dA (λ_=>True) w' (j0 u) ((ys.take j).drop i)):rA K u ((rows.take j).drop i) ((l.take j).drop i) w:=
 ⟨λw' B=>gy.cut (h.1 w' B),λB=>hc _ _ (h.2 B)⟩
theorem rA.WW{sv u:SV}{rows:List bE}{l:List bQ}{i:Nat}(h:rA K sv rows l w)(hc:∀w' (ys:List bE),dA (λ_=>True) w' (j0 sv) ys->dA (λ_=>True) w' (j0 u) (ys.drop i)):rA K u (rows.drop i) (l.drop i) w:=
 ⟨λw' B=>(h.1 w' B).drop i,λB=>hc _ _ (h.2 B)⟩
theorem DX.top{es:PE}{q:Bk×Bool}{p:PD}(h:DX K w es (q::p)):∃sv rows u,es=(⟨sv,q.2⟩,rows)::u/\rA K sv rows q.1.flat w/\DX K w u p:=by
 match es,h with
 | [],h=>exact h.elim
 | e::es,h=>
  obtain⟨⟨sv,B⟩,rows⟩:=e
  obtain⟨⟨h1,h2⟩,h3⟩:=h
  grind
theorem DX.cons{sv:SV}{e:Bool}{rows:List bE}{es:PE}{q:Bk×Bool}{p:PD}(h:DX K w ((⟨sv,e⟩,rows)::es) (q::p)):rA K sv rows q.1.flat w/\DX K w es p:=⟨h.1.2,h.2⟩
theorem FR{e:xH×List bE}{es:PE}:(Ov (e::es))[es.length]?=some e.1:=by grind[Ov]
theorem SY{e:xH×List bE}{es:PE}:(Ov (e::es)).take es.length=Ov es:=by grind[Ov]
end
theorem C116(K Φ:hM)(p:Nat)(room:Int)(t:j1)(F:Nat->Prop)(lv:SV)(rows:List bE)(b:Bk)(e:Bool)(w:World)(V:(eR K Φ p room t).p w F)(G:∀w',gz F w w'->K w')(E:∀w,Φ w->rA K lv rows b.flat w)(nz:t.cE.length<=100000) :
    CR 116 [.pointer (some ⟨p,0,none⟩),j0 lv,.bool e] w (λv w'=>v=.tuple #[]/\mU F (eR K Φ p room {t with cE:=ju b e t.cE}) w w'):=by
 have u:=St.begin V;refine eZ Tryz.func116 ?_;obtain⟨O,W⟩:=E _ (eR.now u);have hlen:=(O _ (G _ u.aG)).1;refine aK fq (W (G _ u.aG)) (cN (aC (λc=>?_) λc=>?_));rotate_left
 .have hb:b=.nil:=by
   cases b with
   | nil=>rfl
   | cons y a B r=>simp[Bk.flat]at hlen;omega
  subst hb;exact⟨rfl,u.mut⟩
 obtain⟨y,a,B,r,rfl⟩:=Bk.DK (t:=b) bO;obtain⟨bp,Y,rg,pl,es,U,u⟩:=eR.open u;have Z:=u.p4.eF.1.len;refine aE (aA jQ (aB sf u.hb rfl (pop (Qo lv.a lv.n lv.cap e) (bD ([(⟨lv,e⟩:xH)]) u uK rfl rfl (dL rfl) λI _ u=>?_))));have J:=u.dS;refine bJ u.p4 uK J (by rw[rL];simp;omega) dD (λM _ u=>have u:=u.p1.drop;aE (aA jQ (aT u.p1 sf (dL rfl) u.dS.one λ_ u=>?_)));have u:=u.p4.dN (Ψ:=λw=>DX K w ((⟨lv,e⟩,rows)::es) ((.cons y a B r,e)::t.cE)/\Φ w) (λw h=>⟨⟨⟨rfl,E w h.2⟩,h.1⟩,h.2⟩)
 have u:=u.p2;rw[<- Zq (⟨lv,e⟩,rows) es]at u;have u:=eR.shut (Φ:=Φ) (t:={t with cE:=(.cons y a B r,e)::t.cE}) U u.p1.p1.p4.p4.p4;exact⟨rfl,u.mut⟩
def C164(K Φ:hM)(p:Nat)(room:Int)(t:j1)(F:Nat->Prop)(y:bQ)(a b r:Bk)(e:Bool)(B:PD)(w:World)(hF:(eR K Φ p room t).p w F)(hK:∀w',gz F w w'->K w')(BL:t.cE=(.cons y a b r,e)::B)(iV:(Bk.cons y a b r).str)(nz:t.cE.length<=100000) :
   CR 164 [.pointer (some ⟨p,0,none⟩)] w (λv w'=>v=.tuple #[]/\mU F (eR K Φ p room {t with cE:=gE t.cE}) w w'):=by
 have U:gE t.cE=ju r false B:=by rw[BL];rfl
 have M:B.length<=100000:=cL
 have u:=St.begin hF;refine oL Tryz.func164 (pl:=axB) ?_;obtain⟨bp,nv,rg,pl,es,hk,u⟩:=eR.open u;have E:=u.p4.eF.1;rw[BL]at E;obtain⟨sv,rows,V,rfl,⟨zh,C8⟩,_⟩:=E.top;have Lv:=E.len;rw[o1,o1]at Lv;have Qa:=zh _ (hK _ u.aG);have GK:=Qa.1;have ud:=(Bk.cons y a b r).cY
 change rows.length=(Bk.cons y a b r).flat.length at GK
 obtain⟨Ks,hb2,hb3,hb4,_⟩:=id iV;simp only[Bk.len]at ud;obtain⟨t0,Z⟩:∃t0,rows[(0:Int).toNat]?=some t0:=⟨_,l0 (by simp;omega)⟩;obtain⟨ge,gf,rfl,_,_⟩:=jh (Qa.2 0 _ y Z rfl);refine aE (aA jQ (aB sf u.hb rfl (aK uK u.p3.dS ?_)));rw[rL,o1];refine fh bO ?_;rw[show((V.length+1:Nat):Int)-1=(V.length:Int)from bO];refine aE (aA jQ (aB sf u.hb rfl (aQ uK u.p3.dS bO (by rw[qb];exact FR) λq hq=>bV sv Lm hq rfl rfl λq2 Kv=>aD jR Kv (aE (aA jQ (aB sf u.hb rfl (have u:=u.p3;CY uK u bO (by rw[rL,o1];omega) λs25 u=>?_)))))))
 rw[qb,SY]at u;refine aE (aA jQ (aT u.p1 sf (dL rfl) u.dS.one λ_ u=>?_));have u:=u.drew.p4;rw[BL]at u;have u:=u.dN (Ψ:=λw=>DX K w V B/\(Φ w/\rA K sv rows (Bk.cons y a b r).flat w)) (λ_ h=>⟨h.1.2,h.2,h.1.1.2⟩);have I:=u.eF.2.2.2 (hK _ u.aG);have u:=eR.shut (Φ:=λw=>Φ w/\rA K sv rows (Bk.cons y a b r).flat w) (t:={t with cE:=B}) hk u.p2.p4.p4.p4;refine aQ fq I bO Z (λq3 Y=>bV y.body iY Y rfl rfl λq4 hq4=>aD bL hq4 (aO bO (aQ fq I bO Z λq5 J=>bV y.ey iI J rfl rfl λq6 O=>aD bL O (aO bO (FQ fq I bO bO λs40 G=>?_)))))
 obtain⟨W,rfl⟩:=(G _ _ I).fK;refine bF M6 u (H':=λ_=>eR K (λw=>Φ w/\rA K sv rows (Bk.cons y a b r).flat w) p room {t with cE:=ju r false B}) (Φ:=λ_ _=>True) (λF2 ef dX=>?_) ?_
 .refine(C116 K _ p room {t with cE:=B} F2 W (rows.drop (1+y.body+y.ey).toNat) r false _ ef (λw' hc=>hK w' (dX w' hc).aG) (λw h=>?_) M).mono λ_ _ r=>r.mono λ_ _ h=>⟨trivial,h.2⟩;have:=h.2.WW G;rw[Bk.aix iV rfl]at this;exact this
 rintro _ _ _ u;rw[<- U]at u;exact⟨rfl,(eR.mono u λ_ h=>h.1).mut⟩
theorem C137(K:hM)(p:Nat)(t:j1)(bp:Nat)(nv:SV)(rg pl:Value)(es:PE)(φ:bQ->Prop)(w:World)(sW:mW w p (Bp bp nv rg pl t.fault))(UF:dA (λ_=>True) w pl (Ov es))(Z:DX K w es t.cE)
   (hw:∀w',Ext w w'->K w') (B:FP φ t.cE) (hl:t.cE.length<=100000):CR 137 [.pointer (some ⟨p,0,none⟩)] w (λv w'=>Ext w w'/\((pj t.cE=none/\v=.tuple #[j0 (⟨0,⟨#[]⟩,⟨#[]⟩,bW,bW,0,0,0,0⟩:bE),.slice none 0 0,.slice none 0 0,.bool false])\/
    ∃x a b xv av bv ra rb,pj t.cE=some (x,a,b)/\v=.tuple #[j0 (xv:bE),j0 (av:SV),j0 (bv:SV),.bool true]/\(∀w',K w'->ml w' xv x)/\∀M,DX K M es t.cE->rA K av ra a.flat M/\rA K bv rb b.flat M)):=by
 have c3:=sW.cell (o:=3) rfl;have J:=Z.len;have u:=St.start w;refine aei _ _ _ ?_;unfold S137;refine aM u jA (λb2 _ u=>have u:=u.enc (cs':=kp (⟨0,⟨#[]⟩,⟨#[]⟩,bW,bW,0,0,0,0⟩:bE)) rfl;aE (aA jQ (bN sf (c3.ext u.aG) (aK uK (UF.ext u.aG) ?_))));rw[rL];refine aH (aC (λc=>?_) λc=>?_)
 .have Ot:t.cE=[]:=sl.1 bO;exact pop (v:=j0 (⟨0,⟨#[]⟩,⟨#[]⟩,bW,bW,0,0,0,0⟩:bE)) (by kernel_rfl) (aJ (x:=(⟨0,⟨#[]⟩,⟨#[]⟩,bW,bW,0,0,0,0⟩:bE)) u eN rfl rfl λ_ u=>aD eN u.At ⟨u.drop.aG,.inl ⟨by rw[Ot];rfl,rfl⟩⟩)
 obtain⟨cE,aqY⟩:∃q,q=t.cE:=⟨_,rfl⟩;rw[<- aqY]at Z B J hl |-;cases cE with
 | nil=>exact absurd (show((es.length:Nat):Int)=0 by have h0:es.length=0:=J;omega) c
 | cons q p'=>
 obtain⟨q1,e⟩:=q;cases q1 with
 | nil=>exact absurd rfl (B.ne _ (o6 ..))
 | cons y a b r=>
 have O:=B.st _ (o6 ..);obtain⟨sv,rows,UD,rfl,⟨zh,C8⟩,_⟩:=Z.top;have Qa:=zh _ (hw _ (Ext.refl _));have GK:=Qa.1;have ud:=(Bk.cons y a b r).cY
 change rows.length=(Bk.cons y a b r).flat.length at GK
 obtain⟨Ks,hb2,hb3,hb4,_⟩:=id O;simp only[Bk.len]at ud;rw[o1]at J c;rw[o1]at J hl;obtain⟨t0,W⟩:∃t0,rows[(0:Int).toNat]?=some t0:=⟨_,l0 (by simp;omega)⟩;obtain⟨ge,gf,rfl,_,_⟩:=jh (Qa.2 0 _ y W rfl);have I:=C8 (hw _ (Ext.refl _));have u:=u.drew;refine aE (aA jQ (bN sf (c3.ext u.aG) (aE (aA jQ (bN sf (c3.ext u.aG) (aK uK (UF.ext u.aG) ?_))))));rw[rL,o1];refine fh bO ?_;rw[show((UD.length+1:Nat):Int)-1=(UD.length:Int)from bO];refine aQ uK (UF.ext u.aG) bO (by rw[qb];exact FR) (λq hq=>bV sv Lm hq rfl rfl λq2 Kv=>aD jR Kv (aQ fq (I.ext u.aG) bO W λq3 U=>aD eN U (aM u jA λb7 _ u=>aJ (x:=(⟨y.kind,y.eG,y.name,ge,gf,y.n,y.body,y.ey,y.at_⟩:bE)) u eN rfl rfl λ_ u=>aA iY (aB (v:=hZ y.body) bL u.hb rfl (aO bO (aA iI (aB (v:=hZ y.ey) bL u.hb rfl (aO bO ?_))))))))
 have u:=u.drew;refine aD eN u.At (M9 fq (I.ext u.aG) bO bO bO λs44 G=>?_);obtain⟨V,rfl⟩:=(G _ _ I).fK;refine M9 fq (I.ext u.aG) bO bO bO (λs49 E=>?_);obtain⟨Y,rfl⟩:=(E _ _ I).fK;refine aJ (x:=(⟨y.kind,y.eG,y.name,ge,gf,y.n,y.body,y.ey,y.at_⟩:bE)) u.p1 eN rfl rfl (λ_ u=>aD eN u.At ?_);refine⟨u.drop.drop.aG,.inr ⟨y,a,b,_,V,Y,(rows.take (1+y.body).toNat).drop (1:Int).toNat,(rows.take (1+y.body+y.ey).toNat).drop (1+y.body).toNat,rfl,rfl,λw' hk=>(zh w' hk).2 0 _ y W rfl,λM h2=>?_⟩⟩;have h3:=h2.cons.1
 refine⟨?_,?_⟩
 .have:=h3.cut G;rw[apP O rfl]at this;exact this
 have:=h3.cut E;rw[apQ O rfl rfl]at this;exact this
theorem C197(K Φ:hM)(p:Nat)(room:Int)(t:j1)(F:Nat->Prop)(w:World)(hF:(eR K Φ p room t).p w F)(hK:∀w',gz F w w'->K w')(Z:t.cE.length<=100000) :
   CR 197 [.pointer (some ⟨p,0,none⟩)] w (λv w'=>v=.tuple #[]/\mU F (eR K Φ p room {t with cE:=kC t.cE}) w w'):=by
 have u:=St.begin hF;refine aej _ _ _ ?_;unfold S197;refine⟨λm ev O=>∃(E:Bool) (B:PD),ev=.bool E/\m=B.length+(if E then 0 else 1)/\B.length<=100000/\kC t.cE=(if E=true then B else kC B)/\St w F [eR K Φ p room {t with cE:=B}] O,⟨_,false,t.cE,rfl,rfl,Z,rfl,u⟩,?_⟩;rintro m _ O ⟨E,B,rfl,rfl,VM,J,u⟩ _;obtain⟨bp,nv,rg,pl,es,V,u⟩:=eR.open u;have I:=u.p4.eF.1;have U:=I.len
 change es.length=B.length at U
 refine⟨λjv w'=>jv=.bool (!E&&decide (0<B.length))/\w'=O,?_,?_⟩
 .refine bR ?_;cases E with
  | true=>exact fw ⟨rfl,rfl⟩
  | false=>
   refine iB (aE (aA jQ (aB sf u.hb rfl (aK uK u.p3.dS ?_))));rw[rL];refine cN ?_;exact⟨vb (by rw[PC,Ac];exact ga.2 bO),rfl⟩
 rintro _ _ ⟨rfl,rfl⟩ _;refine aY (λc=>?_) (λc=>?_);rotate_left
 .have Y:kC t.cE=B:=by
   rw[J];cases E with
   | true=>rfl
   | false=>
    have:B=[]:=sl.1 (by have:=g6 (by simpa only[PC,Ac]using c);omega);rw[this];rfl
  rw[Y];exact⟨rfl,(eR.shut (t:={t with cE:=B}) V u).mut⟩
 rw[Bool.and_eq_true,Bool.not_eq_true',decide_eq_true_eq]at c;obtain⟨rfl,Ay⟩:=c;cases B with
 | nil=>simp at Ay
 | cons q G=>
 obtain⟨q1,e⟩:=q;obtain⟨sv,rows,M,rfl,_,_⟩:=I.top;rw[o1,o1]at U;rw[o1]at VM;refine aE (aA jQ (aB sf u.hb rfl (aK uK u.p3.dS ?_)));rw[rL,o1];refine fh bO ?_;rw[show((M.length+1:Nat):Int)-1=(M.length:Int)from bO];refine aE (aA jQ (aB sf u.hb rfl (aQ uK u.p3.dS bO (by rw[qb];exact FR) λq W=>bV e Wv W rfl rfl λq2 Kv=>aD AB Kv (aE (aA jQ (aB sf u.hb rfl (have u:=u.p3;CY uK u bO (by rw[rL,o1];omega) λs25 u=>?_)))))))
 rw[qb,SY]at u;refine aE (aA jQ (aT u.p1 sf (dL rfl) u.dS.one λ_ u=>have u:=u.p4.dN (Ψ:=λw=>DX K w M G/\Φ w) (λ_ h=>⟨h.1.2,h.2⟩);have u:=eR.shut (Φ:=Φ) (t:={t with cE:=G}) V u.p2.p4.p4.p4;⟨_,?_,e,G,rfl,rfl,bO,?_,u⟩))
 .show G.length+(if e=true then 0 else 1)<G.length+1+1
  split<;>omega
 rw[J];rfl
def C161(K Φ:hM)(p:Nat)(room:Int)(t:j1)(F:Nat->Prop)(lv:Value)(xs:List cA)(w:World)(M:(eR K Φ p room t).p w F)(O:∀w',gz F w w'->K w')(G:dA (λ_=>True) w lv xs)(J:xs.length<=1048576)(U:t.names.length<=1048576) :
   CR 161 [.pointer (some ⟨p,0,none⟩),lv] w (λv w'=>v=.tuple #[hZ (eJ t xs).1,.bool (eJ t xs).2]/\mU F (eR K Φ p room {t with fault:=if (eJ t xs).2=true then t.fault else 2}) w w'):=by
 have u:=St.begin M;refine aek _ _ _ _ ?_;unfold S161;refine aK gY G (aH (aC (λc=>?_) λc=>?_))
 .have B:eJ t xs=(0,true):=by unfold eJ;rw[ej bO]
  rw[B];exact⟨rfl,u.mut⟩
 have B:eJ t xs=((pU t.names t.dQ xs).1,decide ((pU t.names t.dQ xs).2=0)):=by unfold eJ;rw[ei bO]
 obtain⟨Y,W,rg,pl,es,E,u⟩:=eR.open u;have u:=u.drew;refine aE (aA AG (aB jj u.hb rfl (aE (aA AH (aB eh u.hb rfl (aV agp u (C143 _ _ _ xs t.names t.dQ _ (G.ext (Ext.drew w)) (E _ (O _ u.aG)) u.p2.dS J U) λ_ V u=>aN rfl (aN rfl ⟨λw'=>St w F [eR K Φ p room {t with fault:=if (eJ t xs).2=true then t.fault else 2}] w',bX (aC (λI=>?_) λI=>?_),?_⟩)))))))
 .refine aE (aA wV (aT u bL (dL rfl) rfl λ_ u=>?_));have ht:{t with fault:=2}={t with fault:=if (eJ t xs).2=true then t.fault else 2}:=by rw[B];dsimp only;rw[fP I];rfl
  rw[<- ht];exact eR.shut (t:={t with fault:=2}) E u
 .have ht:t={t with fault:=if (eJ t xs).2=true then t.fault else 2}:=by rw[B];dsimp only;rw[ew bO];rfl
  rw[<- ht];exact eR.shut E u
 intro _ u _;exact aH ⟨by rw[B],u.mut⟩
def eR.ajy{w w0:World}{A:Nat->Prop}{R:List HP}{p:Nat}{K Φ Ψ:hM}{room:Int}{t:j1}(u:St w0 A (eF Ψ::eR K Φ p room t::R) w):St w0 A (eR K (λw=>Φ w/\Ψ w) p room t::R) w:=by
 obtain⟨E,G,rg,pl,es,B,u⟩:=eR.open u.p1
 have h1:=u.p5.p5.hG.dN (Ψ:=λw=>DX K w es t.cE/\Φ w/\Ψ w) λw h=>⟨h.1.1,h.1.2,h.2⟩
 exact eR.shut B h1.p4.p4.p4.p4
theorem gy.cons{w:World}{t:bE}{x:bQ}{ts:List bE}{xs:List bQ}(h:ml w t x)(u:gy ts xs w):gy (t::ts) (x::xs) w:=by
 refine⟨by simp[u.1],λi t' B h1 h2=>?_⟩
 cases i with
 | zero=>simp at h1 h2;subst h1 h2;exact h
 | succ i=>exact u.2 i t' B (by simpa using h1) (by simpa using h2)
theorem Qp(x:bQ)(a:Bk):(Bk.cons x a .nil .nil).flat=x::a.flat:=by simp[Bk.flat]
theorem C196(K Φ:hM)(p:Nat)(room:Int)(t:j1)(F:Nat->Prop)(x:bQ)(xv:bE)(av:SV)(W:List bE)(a b r:Bk)(e:Bool)(O:PD)(w:World)(hF:(eR K Φ p room t).p w F)(J:∀w',gz F w w'->K w')(BL:t.cE=(.cons x a b r,e)::O)(iV:(Bk.cons x a b r).str)(nz:t.cE.length<=90000)
   (Aj:∀w,K w->ml w xv x) (hΦ:∀w,Φ w->rA K av W a.flat w) (hn:0<=x.n/\x.n<=1000) :
   CR 196 [.pointer (some ⟨p,0,none⟩),j0 xv,j0 av] w (λv w'=>v=.tuple #[]/\mU F (eR K Φ p room {t with cE:=mN x a t.cE}) w w'):=by
 have u:=St.begin hF;obtain⟨B,E,rfl,_,_⟩:=jh (Aj _ (J _ u.aG));have T6:a.flat.length<=40:=by rw[Bk.cY];exact iV.2.2.1
 have hppl:(gE t.cE).length<=90001:=by
  rw[BL];show(ju r false O).length<=_;rw[BL,o1]at nz;cases r with
  | nil=>show O.length<=_;omega
  | cons _ _ _ _=>show O.length+1<=_;omega
 refine eZ Tryz.func196 ?_;refine cG (x:=(⟨x.kind,x.eG,x.name,B,E,x.n,x.body,x.ey,x.at_⟩:bE)) u (λb4 _ u=>bF M7 u.p1 (H':=λ_=>eR K (Φ) p room {t with cE:=gE t.cE}) (Φ:=λ_ _=>True) (λV M U=>?_) ?_)
 .exact(C164 K _ p room t V x a b r e O _ M (λw' hc=>J w' (U w' hc).aG) BL iV bO).mono λ_ _ r=>r.mono λ_ _ h=>⟨trivial,h.2⟩
 rintro _ _ _ u;refine aA jS (aB (v:=hZ x.n) bL u.p1.hb rfl (aH (aC (λc=>?_) λc=>?_)))
 .rw[show mN x a t.cE=gE t.cE from by unfold mN;rw[ej c]];exact⟨rfl,u.p1.drop.mut⟩
 rw[show mN x a t.cE=ju a false ((.cons {x with n:=x.n-1} a .nil .nil,true)::gE t.cE)from by unfold mN;rw[ei c]];refine aD eN u.p1.At (bD ([⟨x.kind,x.eG,x.name,B,E,x.n,x.body,x.ey,x.at_⟩]:List bE) u fq rfl rfl (dL rfl) λs13 _ u=>?_);have I:=hΦ _ (eR.now u.p1);have hral:=(I.1 _ (J _ u.aG)).1;refine bJ u fq (I.2 (J _ u.aG)) (by simp;omega) dD (λs15 _ u=>dR u fq bO ee λq17 h17=>mD jS h17 λq18 h18=>nK (x.n:Int) u bL h18 (x:=(⟨x.kind,x.eG,x.name,B,E,x.n,x.body,x.ey,x.at_⟩:bE)) rfl rfl (fh bO (dR u fq bO ee λq21 Y=>mD jS Y λq22 Z=>WR (x:=(⟨x.kind,x.eG,x.name,B,E,x.n,x.body,x.ey,x.at_⟩:bE)) (⟨x.kind,x.eG,x.name,B,E,x.n-1,x.body,x.ey,x.at_⟩:bE) (x.n-1:Int) u bL Z rfl dD rfl λ_ u=>?_)))
 obtain⟨G,rfl⟩:=u.dS.fK;have u:=eR.ajy u.freeze
 have ahX:∀w',K w'->gy (((⟨x.kind,x.eG,x.name,B,E,x.n,x.body,x.ey,x.at_⟩:bE)::W).set (0:Int).toNat (⟨x.kind,x.eG,x.name,B,E,x.n-1,x.body,x.ey,x.at_⟩:bE)) (Bk.cons {x with n:=x.n-1} a .nil .nil).flat w':=λw' hw=>by
  rw[Qp];obtain⟨_,_,h4,h5,h6⟩:=Aj w' hw;cases h4
  exact gy.cons ⟨B,E,rfl,h5,h6⟩ (I.1 w' hw)
 refine bF M6 u (H':=λ_=>eR K (λw=>Φ w/\dA (λ_=>True) w (j0 G) (([(⟨x.kind,x.eG,x.name,B,E,x.n,x.body,x.ey,x.at_⟩:bE)]++W).set (0:Int).toNat (⟨x.kind,x.eG,x.name,B,E,x.n-1,x.body,x.ey,x.at_⟩:bE))) p room { {t with cE:=gE t.cE}with cE:=ju (Bk.cons {x with n:=x.n-1} a .nil .nil) true ({t with cE:=gE t.cE}).cE}) (Φ:=λ_ _=>True) (λV M U=>?_) ?_
 .exact(C116 K _ p room ({t with cE:=gE t.cE}) V G _ (Bk.cons {x with n:=x.n-1} a .nil .nil) true _ M (λw' hc=>J w' (U w' hc).aG) (λ_ h=>⟨ahX,λ_=>h.2⟩) (by show(gE t.cE).length<=_;omega)).mono λ_ _ r=>r.mono λ_ _ h=>⟨trivial,h.2⟩
 rintro _ _ _ u;refine bF M6 u (H':=λ_=>eR K (λw=>Φ w/\dA (λ_=>True) w (j0 G) (([(⟨x.kind,x.eG,x.name,B,E,x.n,x.body,x.ey,x.at_⟩:bE)]++W).set (0:Int).toNat (⟨x.kind,x.eG,x.name,B,E,x.n-1,x.body,x.ey,x.at_⟩:bE))) p room { {t with cE:=(.cons {x with n:=x.n-1} a .nil .nil,true)::gE t.cE}with cE:=ju a false ({t with cE:=(.cons {x with n:=x.n-1} a .nil .nil,true)::gE t.cE}).cE}) (Φ:=λ_ _=>True) (λV M U=>?_) ?_
 .exact(C116 K _ p room ({t with cE:=(.cons {x with n:=x.n-1} a .nil .nil,true)::gE t.cE}) V av W a false _ M (λw' hc=>J w' (U w' hc).aG) (λw h=>hΦ w h.1) (by show(gE t.cE).length+1<=_;omega)).mono λ_ _ r=>r.mono λ_ _ h=>⟨trivial,h.2⟩
 rintro _ _ _ u;exact⟨rfl,(eR.mono u.p1.drop λ_ h=>h.1).mut⟩
def C117(K:hM)(p:Nat)(room:Int)(t tR:j1)(n:Nat)(cs ls:List ByteArray)(F:Nat->Prop)(w:World)(hF:(rM K p room t).p w F)(V:∀w',gz F w w'->K w')(kG:yv cs ls t)(hg:tC n t=some tR) :
   CR 117 [.pointer (some ⟨p,0,none⟩)] w (λv w'=>v=.tuple #[]/\mU F (rM K p room tR) w w'):=by
 have u:=St.begin hF;refine ael _ _ _ ?_;unfold S117;refine⟨λmm w'=>∃B:j1,tC mm B=some tR/\yv cs ls B/\St w F [rM K p room B] w',⟨n,t,hg,kG,u⟩,?_⟩;rintro mm _ ⟨B,Y,W,u⟩ _;obtain⟨k,rfl⟩:=HY Y;have nz:=DV W.p;have Fe:=W.cl;have Zr:=W.nb;have GK:=W.rl;obtain⟨bp,nv,rg,pl,es,Z,u⟩:=eR.open u;refine dM Zp (C137 K p B bp nv rg pl es _ _ u.hb u.p3.dS u.p4.eF.1 (λ_ e=>V _ (u.aG.then e)) W.p bO) ?_;rintro v _ ⟨he,hv⟩;have u:=u.ext he
 rcases hv with⟨eH,rfl⟩|⟨x,a,b,xv,E,G,I,J,Cs,rfl,Aj,hab⟩
 .refine aN rfl (aN rfl (aN rfl (aN rfl (aM u jA λb2 w3 u=>aJ (x:=(⟨0,⟨#[]⟩,⟨#[]⟩,bW,bW,0,0,0,0⟩:bE)) u eN rfl rfl λw4 u=>bR (iB ?_)))));rw[po Y (Zk eH)];exact⟨rfl,(eR.shut Z u.drop).mut⟩
 obtain⟨ge,gf,rfl,_,_⟩:=jh (Aj _ (V _ u.aG))
 have Qq:∀w,K w->dA (λ_=>True) w (j0 ge) x.e/\dA (λ_=>True) w (j0 gf) x.f:=λw hw=>by
  obtain⟨_,_,h4,h5,h6⟩:=jh (Aj w hw);cases h4
  exact⟨h5,h6⟩
 obtain⟨hx,sa,sb,aa,ab,Ks,hb2,T6,r,e,p',BL,sr,ar⟩:=W.top Cs;have iV:(Bk.cons x a b r).str:=W.p.st _ (by rw[BL];exact o6 ..);have hxe:=hx.e;have u:=u.p4.dN (Ψ:=λw=>DX K w es B.cE/\(rA K E I a.flat w/\rA K G J b.flat w)) (λw h=>⟨h.1,hab w h.1⟩);have u:=eR.shut (Φ:=λw=>rA K E I a.flat w/\rA K G J b.flat w) (t:=B) Z u.p4.p4.p4.p4;refine aN rfl (aN rfl (aN rfl (aN rfl (aM u jA λb2 w3 u=>aJ (x:=(⟨x.kind,x.eG,x.name,ge,gf,x.n,x.body,x.ey,x.at_⟩:bE)) u eN rfl rfl λw4 u=>bR (fw (aA iX (aB (v:=j0 ge) jz u.hb rfl (bF M8 u.p1 (H':=λ_=>eR K (λw=>rA K E I a.flat w/\rA K G J b.flat w) p room {B with fault:=if (eJ B x.e).2=true then B.fault else 2}) (Φ:=λv _=>v=.tuple #[hZ (eJ B x.e).1,.bool (eJ B x.e).2]) (λO M U=>?_) ?_))))))))
 .exact C161 K _ p room B O _ x.e _ M (λw' hc=>V w' (U w' hc).aG) (Qq _ (V _ u.aG)).1 bO bO
 rintro _ w5 rfl u;refine aN rfl (aN rfl (bR (aY (λc1=>?_) λc1=>?_)))
 .have h1:(eJ B x.e).2=false:=by simpa using c1
  rw[h1]at u;rw[po Y (Zl Cs h1)];exact⟨rfl,(eR.mono u.p1.drop λ_ _=>trivial).mut⟩
 have h1:(eJ B x.e).2=true:=by simpa using c1
 replace u:St w F [eR K (λw=>rA K E I a.flat w/\rA K G J b.flat w) p room B,bY b2 (kp (⟨x.kind,x.eG,x.name,ge,gf,x.n,x.body,x.ey,x.at_⟩:bE))] w5:=by rw[h1]at u;exact u
 refine aA j9 (aB (v:=j0 gf) jz u.p1.hb rfl (bF M8 u (H':=λ_=>eR K (λw=>rA K E I a.flat w/\rA K G J b.flat w) p room {B with fault:=if (eJ B x.f).2=true then B.fault else 2}) (Φ:=λv _=>v=.tuple #[hZ (eJ B x.f).1,.bool (eJ B x.f).2]) (λO M U=>?_) ?_))
 .exact C161 K _ p room B O _ x.f _ M (λw' hc=>V w' (U w' hc).aG) (Qq _ (V _ u.aG)).2 bO bO
 rintro _ w6 rfl u;refine aN rfl (aN rfl (bR (aY (λc2=>?_) λc2=>?_)))
 .have h2:(eJ B x.f).2=false:=by simpa using c2
  rw[h2]at u;rw[po Y (Zm Cs h2)];exact⟨rfl,(eR.mono u.p1.drop λ_ _=>trivial).mut⟩
 have h2:(eJ B x.f).2=true:=by simpa using c2
 replace u:St w F [eR K (λw=>rA K E I a.flat w/\rA K G J b.flat w) p room B,bY b2 (kp (⟨x.kind,x.eG,x.name,ge,gf,x.n,x.body,x.ey,x.at_⟩:bE))] w6:=by rw[h2]at u;exact u
 have hgk:=Zn Cs h1 h2
 have wj:∀(t2:j1) (w':World),qN B x a b (eJ B x.e).1=(t2,true)->St w F [eR K (λw=>rA K E I a.flat w/\rA K G J b.flat w) p room t2,bY b2 (kp (⟨x.kind,x.eG,x.name,ge,gf,x.n,x.body,x.ey,x.at_⟩:bE))] w'->∃m',m'<k+1/\∃B:j1,tC m' B=some tR/\yv cs ls B/\St w F [rM K p room B] w':=λt2 w' h3 h4=>by
  have h5:=hgk.trans h3;obtain⟨h6,h7,_⟩:=DW W;rw[h5]at h6 h7;exact⟨k,K9 k,t2,SR Y h5,h6,eR.mono h4.p1.drop λ_ _=>trivial⟩
 refine aA dO (aB (v:=hZ x.kind) bL u.p1.hb rfl (aH (aC (λk1=>?_) λk1=>?_)))
 .have hpm:=dK.1 (hx.rg (.inl k1));obtain⟨j,hj,Bj,_⟩:=lY hpm;have Ef:=(kO.1 Bj).1;obtain⟨bp,nv,rg,pl,es,Z,u⟩:=eR.open u;have u:=u.drew;refine aE (aA AH (aB eh u.hb rfl (aE (aA AG (aB jj u.hb rfl (aA iH (aB (v:=.string x.eG) gA u.p5.hb rfl (aV HD u (C159 _ B.names x.eG _ (Z _ (V _ u.aG)) bO) λ_ he u=>?_))))))));refine⟨aF eh (u.hb.cell rfl),?_⟩;refine dR u.p2 cS bO bO (λq51 h51=>jw (eJ B x.e).1 u.p2 bL h51 bO λ_ u=>have u:=eR.shut (Φ:=λw=>rA K E I a.flat w/\rA K G J b.flat w) (t:=pk B x.eG (eJ B x.e).1) Z u.p2.p2;bF M7 u (H':=λ_=>eR K (λw=>rA K E I a.flat w/\rA K G J b.flat w) p room {pk B x.eG (eJ B x.e).1 with cE:=gE (pk B x.eG (eJ B x.e).1).cE}) (Φ:=λ_ _=>True) (λO M U=>?_) ?_)
  .exact(C164 K _ p room (pk B x.eG (eJ B x.e).1) O x a b r e p' _ M (λw' hc=>V w' (U w' hc).aG) BL iV (by show B.cE.length<=_;omega)).mono λ_ _ r=>r.mono λ_ _ h=>⟨trivial,h.2⟩
  rintro _ _ _ u;exact wj _ _ (Zj k1) u
 refine aH (aC (λk2=>?_) λk2=>?_)
 .refine bF M7 u (H':=λ_=>eR K (λw=>rA K E I a.flat w/\rA K G J b.flat w) p room {B with cE:=gE B.cE}) (Φ:=λ_ _=>True) (λO M U=>?_) ?_
  .exact(C164 K _ p room B O x a b r e p' _ M (λw' hc=>V w' (U w' hc).aG) BL iV bO).mono λ_ _ r=>r.mono λ_ _ h=>⟨trivial,h.2⟩
  rintro _ w10 _ u;refine⟨λjv w'=>jv=(if (eJ B x.e).1=0 then j0 G else j0 E)/\w'=w10,?_,?_⟩
  .refine aH ?_;refine aC (λc=>⟨(ej c).symm,rfl⟩) (λc=>⟨(ei c).symm,rfl⟩)
  rintro _ _ ⟨rfl,rfl⟩ _
  have hpq:(gE B.cE).length<=100000:=by
   have:=DV W.p.pop;have:=Qn BL;omega
  have e1:(if (eJ B x.e).1=0 then j0 G else j0 E)=j0 (if (eJ B x.e).1=0 then G else E):=by split<;>rfl
  rw[e1];refine bF M6 u (H':=λ_=>eR K (λw=>rA K E I a.flat w/\rA K G J b.flat w) p room { {B with cE:=gE B.cE}with cE:=ju (if (eJ B x.e).1=0 then b else a) false ({B with cE:=gE B.cE}).cE}) (Φ:=λ_ _=>True) (λO M U=>?_) ?_
  .exact(C116 K _ p room ({B with cE:=gE B.cE}) O (if (eJ B x.e).1=0 then G else E) (if (eJ B x.e).1=0 then J else I) (if (eJ B x.e).1=0 then b else a) false _ M (λw' hc=>V w' (U w' hc).aG) (λ_ h=>by split;exact h.2;exact h.1) hpq).mono λ_ _ r=>r.mono λ_ _ h=>⟨trivial,h.2⟩
  rintro _ _ _ u;exact wj _ _ (JP k2) u
 refine aH (aC (λk3=>?_) λk3=>?_)
 .refine aD eN u.p1.At (bF aqS u (H':=λ_=>eR K (λw=>rA K E I a.flat w/\rA K G J b.flat w) p room {B with cE:=mN x a B.cE}) (Φ:=λ_ _=>True) (λO M U=>?_) ?_)
  .exact(C196 K _ p room B O x ⟨x.kind,x.eG,x.name,ge,gf,x.n,x.body,x.ey,x.at_⟩ E I a b r e p' _ M (λw' hc=>V w' (U w' hc).aG) BL iV bO Aj (λ_ h=>h.1) (hx.n k3)).mono λ_ _ r=>r.mono λ_ _ h=>⟨trivial,h.2⟩
  rintro _ _ _ u;exact wj _ _ (SU k3) u
 refine aH (aC (λk4=>?_) λk4=>?_)
 .refine bF aqT u (H':=λ_=>eR K (λw=>rA K E I a.flat w/\rA K G J b.flat w) p room {B with cE:=kC B.cE}) (Φ:=λ_ _=>True) (λO M U=>?_) ?_
  .exact(C197 K _ p room B O _ M (λw' hc=>V w' (U w' hc).aG) bO).mono λ_ _ r=>r.mono λ_ _ h=>⟨trivial,h.2⟩
  rintro _ _ _ u;exact wj _ _ (SW k4) u
 refine aH (aC (λk5=>?_) λk5=>?_)
 .refine aH (aC (λc=>?_) λc=>?_)
  .obtain⟨bp,nv,rg,pl,es,Z,u⟩:=eR.open u;refine aE (aA wV (aT u bL (dL rfl) rfl λ_ u=>?_));have u:=eR.shut (Φ:=λw=>rA K E I a.flat w/\rA K G J b.flat w) (t:={B with fault:=1}) Z u;rw[po Y (hgk.trans (M4 k5 c))];exact⟨rfl,(eR.mono u.p1.drop λ_ _=>trivial).mut⟩
  refine bF M7 u (H':=λ_=>eR K (λw=>rA K E I a.flat w/\rA K G J b.flat w) p room {B with cE:=gE B.cE}) (Φ:=λ_ _=>True) (λO M U=>?_) ?_
  .exact(C164 K _ p room B O x a b r e p' _ M (λw' hc=>V w' (U w' hc).aG) BL iV bO).mono λ_ _ r=>r.mono λ_ _ h=>⟨trivial,h.2⟩
  rintro _ _ _ u;exact wj _ _ (M5 k5 c) u
 rw[po Y (hgk.trans (SX k1 k2 k3 k4 k5))];exact⟨rfl,(eR.mono u.p1.drop λ_ _=>trivial).mut⟩
variable (w:World) (K:Value->hM)
def axM:dI:=λi=>match i with
 | 8=>(.of [(0,[]),(1,[]),(2,[]),(3,[]),(4,[]),(5,[]),(6,[]),(7,[]),(8,[]),(9,[]),(10,[]),(11,[]),(12,[]),(13,[]),(14,[7]),(15,[]),(16,[]),(17,[]),(18,[]),(19,[])])
 | _=>.nil
def S160(V G a E:Value):Prop:=
 rR hH (By 193 a) w λb c=>aL 56 c λd e=>nC G λf=>fA 138 f 0 λg=>lA 88 g e λh=>cF 226 [h,E] e λj k=>xT j 0 λl=>xT j 1 λn=>G3 (λJ=>
 eU hH (Op.unary .not n) λo=>cV o (nC V λp=>fA 96 p 4 λq=>lA 93 q k λs=>cF 227 [s,E] k λt u=>xT t 0 λv=>xT t 1 λ_=>J v (i 1) u) (J l (i 2) k))
 (λO B x=>∀_:Env,
 nC G λy=>fA 138 y 2 λz=>lA 41 z (drew x) λI=>nC G λW=>fA 138 W 1 λac=>lA 91 ac (drew x) λZ=>fA 193 b 1 λY=>lA 9 Y (drew x) λU=>cF 159 [Z,U] (drew x) λag M=>
 kA 41 z I M (iA 41 I ag λai=>sA 3 ai O M λaj=>eU hH (mL 56 [(0,B),(2,E),(3,O)].toArray) λak=>sA 56 d ak aj λal=>lA 56 d al λr=>
 K r al))
def axN:dI:=λi=>match i with
 | 6=>(.of [(0,[]),(1,[]),(2,[]),(3,[]),(4,[]),(5,[]),(6,[]),(7,[]),(8,[]),(9,[]),(11,[]),(10,[3]),(12,[]),(13,[])])
 | _=>.nil
theorem aem(E G u B:Value)(h:S160 w K E G u B):CR 160 [E,G,u,B] w K:=
 qW 49 axN 256 [.cell 8 56] Tryz.func160 h
def S163(J E a B:Value):Prop:=
 rR hH (By 193 a) w λb c=>aL 56 c λd e=>nC J λf=>fA 96 f 4 λg=>lA 93 g e λh=>cF 227 [h,B] e λj k=>xT j 0 λl=>xT j 1 λ_=>fA 193 b 3 λn=>
 lA 82 n k λo=>cF 161 [E,o] k λp q=>xT p 0 λs=>xT p 1 λ_=>fA 193 b 4 λt=>lA 82 t q λu=>cF 161 [E,u] q λv x=>xT v 0 λy=>xT v 1 λ_=>nC E λz=>
 fA 138 z 2 λO=>lA 41 O (drew x) λM=>nC E λac=>fA 138 ac 1 λad=>lA 91 ad (drew x) λZ=>fA 193 b 1 λW=>lA 9 W (drew x) λag=>cF 159 [Z,ag] (drew x) λah V=>
 kA 41 O M V (iA 41 M ah λaj=>sA 3 aj l V λG=>bA .neq 3 l s λal=>cV al (eU hH (mL 56 [(0,(i 9)),(2,B),(3,l)].toArray) λam=>sA 56 d am G λU=>
 lA 56 d U λr=>K r U) (nC J λao=>fA 96 ao 4 λY=>lA 93 Y G λaq=>cF 156 [aq,B,y] G λ_ ar=>eU hH (mL 56 [(0,(i 8)),(2,B),(3,l),(4,y)].toArray) λasx=>
 sA 56 d asx ar λI=>lA 56 d I λIS=>K IS I))
def axO:dI:=λi=>match i with
 | 4=>(.of [(0,[]),(1,[]),(2,[]),(3,[]),(4,[]),(5,[]),(6,[]),(7,[]),(8,[]),(9,[]),(11,[]),(10,[3]),(12,[]),(13,[])])
 | _=>.nil
theorem aen(E G u B:Value)(h:S163 w K E G u B):CR 163 [E,G,u,B] w K:=
 qW 68 axO 256 [.cell 8 56] Tryz.func163 h
def S91(G M:Value):Prop:=
 aL 56 w λa b=>nC G λc=>fA 96 c 6 λd=>lA 94 d b λe=>iA 94 e M λf=>lA 135 f b λg=>nC g λh=>fA 138 h 4 λj=>lA 3 j b λk=>bB .neq 3 k (i 0) λl=>
 cV l (nC g λn=>fA 138 n 4 λo=>lA 3 o b λp=>cF 158 [G,M,p] b λq s=>sA 56 a q s λt=>lA 56 a t λr=>K r t) (cF 137 [g] b λu v=>xT u 0 λx=>xT u 1 λ_=>
 xT u 2 λ_=>xT u 3 λ_=>aL 193 v λy z=>sA 193 y x z λU=>nC G λab=>fA 96 ab 1 λac=>lA 91 ac (drew U) λad=>fA 193 y 2 λae=>lA 9 ae (drew U) λaf=>
 nC G λag=>fA 96 ag 2 λah=>lA 91 ah (drew U) λai=>fA 193 y 2 λaj=>lA 9 aj (drew U) λak=>cF 159 [ad,af] (drew U) λal V=>kA 91 ah ai V (kA 9 aj ak V (
 cF 159 [ai,ak] V λO ao=>nC G λap=>fA 96 ap 0 λaq=>lA 27 aq ao λar=>cF 52 [ar,al] ao λasx au=>aL 56 au λE B=>yM (λI=>fA 193 y 0 λaw=>lA 3 aw B λJ=>
 bB .eql 3 J (i 2) λay=>cV ay (lA 193 y B λaz=>cF 160 [G,g,az,al] B λa0 a1=>sA 56 E a0 a1 λa2=>I a2) (bB .eql 3 J (i 3) λa3=>cV a3 (fA 193 y 3 λa4=>
 lA 82 a4 B λa5=>cF 161 [g,a5] B λY a7=>xT Y 0 λa8=>xT Y 1 λ_=>nC g λa9=>fA 138 a9 0 λba=>lA 88 ba a7 λbb=>eU hH (mL 231 [(0,(i 3)),(1,asx),(2,al),(3,a8)].toArray) λbc=>
 cF 162 [bb,bc] a7 λ_ bd=>eU hH (mL 56 [(0,(i 3)),(2,al),(3,a8)].toArray) λbe=>sA 56 E be bd λbf=>I bf) (bB .eql 3 J (i 5) λbg=>cV bg (nC g λbh=>
 fA 138 bh 0 λbi=>lA 88 bi B λbj=>eU hH (mL 231 [(0,(i 5)),(1,asx)].toArray) λbk=>cF 162 [bj,bk] B λ_ bl=>eU hH (mL 56 [(0,(i 4)),(2,asx)].toArray) λbm=>
 sA 56 E bm bl λbn=>I bn) (bB .eql 3 J (i 6) λbo=>cV bo (nC g λbp=>fA 138 bp 0 λbq=>lA 88 bq B λbr=>eU hH (mL 231 [(0,(i 6)),(1,asx)].toArray) λbs=>
 cF 162 [br,bs] B λ_ bt=>eU hH (mL 56 [(0,(i 5)),(2,asx)].toArray) λbu=>sA 56 E bu bt λbv=>I bv) (bB .eql 3 J (i 7) λbw=>cV bw (nC g λbx=>
 fA 138 bx 0 λbz=>lA 88 bz B λb0=>eU hH (mL 231 [(0,(i 7))].toArray) λb1=>cF 162 [b0,b1] B λ_ b2=>eU hH (mL 56 [(0,(i 6))].toArray) λb3=>
 sA 56 E b3 b2 λb4=>I b4) (bB .eql 3 J (i 8) λb5=>cV b5 (eU hH (mL 56 [(0,(i 7))].toArray) λb6=>sA 56 E b6 B λb7=>I b7) (bB .eql 3 J (i 4) λb8=>
 cV b8 (lA 193 y B λb9=>cF 163 [G,g,b9,al] B λca cb=>sA 56 E ca cb λcc=>I cc) (bB .eql 3 J (i 9) λcd=>cV cd (nC G λce=>fA 96 ce 5 λcf=>lA 41 cf B λcg=>
 iA 41 cg O λch=>sA 3 ch M B λci=>eU hH (mL 56 [(0,(i 10)),(2,O)].toArray) λcj=>sA 56 E cj ci λck=>I ck) (nC G λcl=>fA 96 cl 5 λcm=>
 lA 41 cm B λcn=>iA 41 cn O λco=>lA 3 co B λcp=>bA .neq 3 cp M λcq=>cV cq (cF 158 [G,M,(i 3)] B λcr cs=>sA 56 a cr cs λct=>lA 56 a ct λIS=>K IS ct) (
 nC G λcu=>fA 96 cu 5 λcv=>lA 41 cv B λcw=>iA 41 cw O λcx=>sA 3 cx (i (-1)) B λcy=>eU hH (mL 56 [(0,(i 11)),(2,O)].toArray) λcz=>sA 56 E cz cy λc0=>
 I c0)))))))))) (λc1=>∀_:Env,
 fA 56 E 1 λc2=>sA 3 c2 M c1 λc3=>cF 164 [g] c3 λ_ c4=>cF 117 [g] c4 λ_ W=>lA 56 E W λc6=>sA 56 a c6 W λZ=>lA 56 a Z λOO=>K OO Z))))
def P91:dI:=λi=>match i with
 | 5=>(.of [(0,[]),(1,[]),(2,[]),(3,[]),(4,[]),(5,[]),(7,[]),(8,[]),(9,[]),(10,[]),(11,[]),(12,[]),(6,[10,12]),(13,[]),(14,[]),(15,[])])
 | _=>.nil
theorem ajD(B u:Value)(h:S91 w K B u):CR 91 [B,u] w K:=
 qW 171 P91 16 [.cell 4 56] Tryz.func91 h
def P90:dI:=λi=>match i with
 | 1=>(.op 0 [] (.op 1 [] (.op 2 [] (.op 3 [] (.op 4 [] (.op 5 [] (.op 6 [] (.op 7 [] (.op 8 [] (.op 9 [] (.op 10 [] (.op 11 [] (.op 12 [] (.alt 13 [] (.of [(14,[]),(15,[]),(16,[]),(17,[3,5,7,10,12]),(18,[]),(19,[])]) (.alt 17 [3,5,7,10,12] (.of [(13,[]),(14,[]),(15,[]),(16,[]),(18,[]),(19,[])]) .stop)))))))))))))))
 | 4=>.run 0 9
 | 8=>.run 0 7
 | _=>.nil
def P56:dI:=λi=>match i with
 | 9=>(.of [(0,[]),(1,[]),(2,[]),(3,[]),(4,[]),(5,[]),(6,[2]),(7,[]),(8,[]),(9,[])])
 | _=>.nil
def P24:dI:=λi=>match i with
 | 1=>.run 0 30
 | _=>.nil
def P68:dI:=λi=>match i with
 | 2=>(.of [(0,[]),(1,[]),(2,[]),(3,[]),(4,[]),(5,[]),(6,[]),(7,[]),(8,[]),(9,[]),(10,[]),(11,[]),(12,[]),(13,[3,7,11]),(14,[])])
 | _=>.nil
def S70(E:Value):Prop:=
 nC E λa=>fA 96 a 0 λb=>lA 27 b w λc=>cF 54 [c] w λd e=>nC E λf=>fA 96 f 0 λg=>fA 27 g 5 λh=>lA 25 h e λj=>lN 25 j λk=>pD (λI B l n=>∀_:Env,
 bA .lss 3 l k λo=>cV o (fg (λK2=>iA 25 j l λp=>lA 85 p n λq=>aL 85 n λU r=>sA 85 U q r λs=>fA 85 U 0 λt=>lA 82 t (drew s) λu=>nC E λv=>fA 96 v 1 λx=>
 lA 91 x (drew s) λy=>eU hH (ob 91 y none (some d) none) λz=>cF 72 [E] (drew s) λW G=>kA 82 t u G (kA 91 x y G (eU hH (ob 41 W none (some d) none) λac=>
 cF 143 [u,z,ac] G λO M=>xT O 0 λaf=>xT O 1 λag=>bB .eql 31 ag (i 0) λah=>cV ah (bB .neq 3 af (i 0) λai=>bS 117 1 [(0,ai)] M λZ ak=>aP 117 B Z ak λal am=>
 K2 al am) (bS 117 1 [(0,ff)] M λY ao=>aP 117 B Y ao λV aq=>K2 V aq)))) (λJ ar=>∀_:Env,
 bB .add 3 l (i 1) λasx=>I J asx ar)) (K B n)) (λI=>I (.slice none 0 0) (i 0) e)
def P70:dI:=λi=>match i with
 | 6=>(.of [(0,[]),(1,[]),(2,[]),(3,[]),(4,[]),(5,[]),(6,[]),(7,[]),(8,[]),(10,[]),(9,[1,5]),(11,[]),(12,[]),(13,[]),(14,[]),(15,[]),(16,[]),(17,[])])
 | _=>.nil
theorem ajG(u:Value)(h:S70 w K u):CR 70 [u] w K:=
 qW 51 P70 4 [.tmp 2] Tryz.func70 h
def S12(p0 O:Value):Prop:=
 rR hH (By 27 p0) w λp2 a=>lA 27 p2 a λb=>cF 48 [b] a λc d=>xT c 0 λe=>xT c 1 λ_=>bB .neq 31 e (i 0) λf=>cV f (K (.tuple #[(.pointer none),e]) d) (
 cF 49 [O] d λg h=>xT g 0 λ_=>xT g 1 λj=>bB .neq 31 j (i 0) λk=>cV k (K (.tuple #[(.pointer none),j]) h) (lA 27 p2 (drew h) λl=>lA 27 p2 (drew h) λn=>lA 27 p2 (drew h) λo=>
 cF 50 [n] (drew h) λp q=>kA 27 p2 l q (kA 27 p2 o q (cF 51 [o] q λr s=>kA 27 p2 l s (eU hH (mL 96 [(0,l),(1,p),(2,r),(3,O)].toArray) λt=>rR hH (By 96 t) s λu v=>
 nC u λx=>fA 96 x 1 λy=>lA 91 y v λz=>lN 91 z λaa=>pD (λI E G B=>∀_:Env,
 bA .lss 3 G aa λad=>cV ad (lA 27 p2 B λae=>cF 52 [ae,G] B λaf ag=>bS 41 1 [(0,af)] ag λah ai=>aP 41 E ah ai λaj ak=>bB .add 3 G (i 1) λal=>I aj al ak) (
 lA 27 p2 (drew B) λam=>lA 27 p2 (drew B) λM=>cF 54 [am] (drew B) λao J=>kA 27 p2 M J (cF 55 [M] J λaq ar=>cF 53 [E,ao,aq] ar λasx Z=>xT asx 0 λav=>
 xT asx 1 λ_=>nC u λY=>fA 96 Y 4 λV=>sA 93 V av Z λU=>fA 27 p2 3 λaz=>lA 24 az U λW=>cF 56 [u,W] U λ_ a1=>K (.tuple #[u,(i 0)]) a1))) λI=>I (.slice none 0 0) (i 0) v)))))
def P12:dI:=λi=>match i with
 | 7=>(.of [(0,[]),(1,[]),(3,[]),(5,[]),(2,[0,3]),(4,[0]),(6,[]),(7,[]),(8,[])])
 | 14=>(.of [(0,[]),(1,[]),(2,[]),(4,[]),(3,[4]),(5,[]),(6,[]),(7,[]),(8,[]),(9,[]),(10,[]),(11,[]),(12,[])])
 | _=>.nil
theorem ajH(p0 u:Value)(h:S12 w K p0 u):CR 12 [p0,u] w K:=
 qW 69 P12 48 [.tmp 4,.tmp 5] Tryz.func12 h
def S87(B:Value):Prop:=
 lN 41 B λa=>pD (λu E b c=>∀_:Env,
 bA .lss 3 b a λd=>cV d (iA 41 B b λe=>lA 3 e c λf=>bB .mul 3 E (i 10000) λg=>bA .add 3 g f λh=>bB .add 3 b (i 1) λj=>u h j c) (K E c)) (λu=>u (i 0) (i 0) w)
theorem ajI(u:Value)(h:S87 w K u):CR 87 [u] w K:=
 qW 18 (λ_=>.nil) 4 [.tmp 2] Tryz.func87 h
theorem aq1:PL 138:=dJ Tryz.func138
theorem aq2:PL 67:=dJ Tryz.func67
theorem ag5:PL 158:=dJ Tryz.func158
theorem aq3:PL 160:=dJ Tryz.func160
theorem aq4:PL 163:=dJ Tryz.func163
theorem axP:PL 91:=dJ Tryz.func91
theorem axQ:PL 90:=dJ Tryz.func90
theorem aq5:PL 56:=dJ Tryz.func56
theorem aq6:PL 24:=dJ Tryz.func24
theorem axR:PL 88:=dJ Tryz.func88
theorem ajJ:PL 68:=dJ Tryz.func68
theorem aq7:PL 140:=dJ Tryz.func140
theorem ajK:PL 72:=dJ Tryz.func72
theorem axS:PL 70:=dJ Tryz.func70
theorem aq8:PL 12:=dJ Tryz.func12
theorem axT:PL 87:=dJ Tryz.func87
theorem aq9:PL 142:=dJ Tryz.func142
theorem ara:PL 217:=dJ Tryz.func217
end Go.Proofs.YtpdlpabnlkofmaaGreatDoor
namespace Go.Proofs.YtpdlpabnlkofmaaGreatDoor
open Go.Fw
def Ct(u:Int)(B:Int):pr hH (mL 50 [(0,hZ u),(1,hZ B)].toArray)=some (.agg [hZ u,hZ B,hZ 0,.slice none 0 0].toArray):=by kernel_rfl
def CZ(u:Int)(B:Int)(E:Int):pr hH (mL 50 [(0,hZ u),(1,hZ B),(2,hZ E)].toArray)=some (.agg [hZ u,hZ B,hZ E,.slice none 0 0].toArray):=by kernel_rfl
def JT:pr hH (mL 56 [].toArray)=some (.agg [hZ 0,hZ 0,hZ 0,hZ 0,hZ 0].toArray):=by kernel_rfl
def JU(u:Int):pr hH (mL 56 [(0,hZ u)].toArray)=some (.agg [hZ u,hZ 0,hZ 0,hZ 0,hZ 0].toArray):=by kernel_rfl
def HZ(u:Int)(B:Int):pr hH (mL 56 [(0,hZ u),(1,hZ B)].toArray)=some (.agg [hZ u,hZ B,hZ 0,hZ 0,hZ 0].toArray):=by kernel_rfl
def tS(u:Int)(B:Int)(E:Int):pr hH (mL 56 [(0,hZ u),(1,hZ B),(2,hZ E)].toArray)=some (.agg [hZ u,hZ B,hZ E,hZ 0,hZ 0].toArray):=by kernel_rfl
def zj(B:Int)(E:Int)(G:Int)(u:Int):pr hH (mL 56 [(0,hZ B),(1,hZ E),(2,hZ G),(3,hZ u)].toArray)=some (.agg [hZ B,hZ E,hZ G,hZ u,hZ 0].toArray):=by kernel_rfl
def oF(u:Int)(B:Int):pr hH (mL 56 [(0,hZ u),(2,hZ B)].toArray)=some (.agg [hZ u,hZ 0,hZ B,hZ 0,hZ 0].toArray):=by kernel_rfl
def mO(B:Int)(E:Int)(u:Int):pr hH (mL 56 [(0,hZ B),(2,hZ E),(3,hZ u)].toArray)=some (.agg [hZ B,hZ 0,hZ E,hZ u,hZ 0].toArray):=by kernel_rfl
def zn(E:Int)(B:Int)(u:Int)(G:Int):pr hH (mL 56 [(0,hZ E),(2,hZ B),(3,hZ u),(4,hZ G)].toArray)=some (.agg [hZ E,hZ 0,hZ B,hZ u,hZ G].toArray):=by kernel_rfl
def H0(B:Int)(u:Int):pr hH (mL 56 [(0,hZ B),(3,hZ u)].toArray)=some (.agg [hZ B,hZ 0,hZ 0,hZ u,hZ 0].toArray):=by kernel_rfl
def GL(u:Option Addr)(I M:Nat)(Nb:Option Addr)(Zv V:Nat)(G:Option Addr)(Zx Zy:Nat)(B:Option Addr)(Nf E:Nat)(J:Option Addr)(Ni Z:Nat)(Nk:Option Addr)(Zz ZA:Nat)(U:Option Addr)(n1 W:Nat)(a2:Option Addr)(O Y:Nat)(a3:Int):pr hH (mL 96 [(0,.agg [.slice u I M,.slice Nb Zv V,.slice G Zx Zy,.slice B Nf E,.slice J Ni Z,.slice Nk Zz ZA].toArray),(1,.slice U n1 W),(2,.slice a2 O Y),(3,hZ a3)].toArray)=some (.agg [.slice u I M,.slice Nb Zv V,.slice G Zx Zy,.slice B Nf E,.slice J Ni Z,.slice Nk Zz ZA,.slice U n1 W,.slice a2 O Y,hZ a3,.pointer none,.slice none 0 0,.slice none 0 0,hZ 0,hZ 0,hZ 0].toArray):=by kernel_rfl
def JV(u:Int)(B:Int)(E:Int):pr hH (mL 114 [(0,hZ u),(1,hZ B),(2,hZ E)].toArray)=some (.agg [hZ u,hZ B,hZ E,.bool false,.bool false].toArray):=by kernel_rfl
def JW(u:Option Addr)(G:Option Addr)(E I:Nat)(J:Option Addr)(B M:Nat):pr hH (mL 138 [(0,.pointer u),(1,.slice G E I),(2,.slice J B M)].toArray)=some (.agg [.pointer u,.slice G E I,.slice J B M,.slice none 0 0,hZ 0].toArray):=by kernel_rfl
def vJ(u:Int)(B:Int):pr hH (mL 231 [(0,hZ u),(1,hZ B)].toArray)=some (.agg [hZ u,hZ B,hZ 0,hZ 0].toArray):=by kernel_rfl
def xJ(B:Int)(E:Int)(G:Int)(u:Int):pr hH (mL 231 [(0,hZ B),(1,hZ E),(2,hZ G),(3,hZ u)].toArray)=some (.agg [hZ B,hZ E,hZ G,hZ u].toArray):=by kernel_rfl
structure gU where
 p:cB
 room:Int
 mem:Mem
 eV:List Int
 l:List j1
 bZ:Int
 fault:Int
 jd:Int
structure DA where
 pv:bP
 cv:SV
 kv:SV
 q:Nat
 ov:Value
 fv:Value
 ow:Value
 ll:Value
 ps:List Ptr
@[reducible] def q7(a:DA)(s:gU):List Value:=[j0 a.pv.lines,j0 a.pv.iR,j0 a.pv.eK,j0 a.pv.threads,j0 a.pv.recover,j0 a.pv.dT,j0 a.cv,j0 a.kv,.int .i64 s.room,.pointer (some ⟨a.q,0,none⟩),a.ow,a.ll,.int .i64 s.bZ,.int .i64 s.fault,.int .i64 s.jd]
def ThK(K:hM)(E:cH)(t:cO):Prop:=∃(u B:SV) (rows:List bE),E=⟨t.name,u,B,t.at_⟩/\(∀w,K w->dA (λ_=>True) w (j0 u) t.dQ)/\∀w,rA K B rows t.body w
def Dl(K:hM)(u:List cH)(qZ:List cO):Prop:=u.length=qZ.length/\∀(j:Nat) (B:cH) (t:cO),u[j]?=some B->qZ[j]?=some t->ThK K B t
structure DUK(K:hM)(a:DA)(s:gU):Prop where
 pr:∀w,K w->ml w a.pv s.p
 cs:∀w,K w->dA (λ_=>True) w (j0 a.cv) (cT s.p)
 ks:∀w,K w->dA (λ_=>True) w (j0 a.kv) (cM s.p)
 mem:∀w,K w->Bo a.ov a.fv s.mem w
 rc:∃vK,(∀w,K w->dA (λ_=>True) w (j0 a.pv.recover) vK)/\Dl K vK s.p.recover
abbrev yI(K:hM)(room:Int)(s:Ptr)(t:j1):HP:=rM K s.b room t
def gu(K:hM)(p:Nat)(m:gU):HP:=pM λa:DA=>fact (DUK K a m) (sep (bY p (q7 a m)) (sep (iN a.q a.ov a.fv m.mem) (sep (bH a.ow m.eV) (sep (bH a.ll a.ps) (ic (yI K m.room) a.ps m.l)))))
def m9(K:hM)(p:Nat)(m:gU)(i:Nat)(tp:Ptr):HP:=pM λa:DA=>fact (DUK K a m/\a.ps[i]?=some tp/\a.ps.length=m.l.length/\i<m.l.length) (sep (bY p (q7 a m)) (sep (iN a.q a.ov a.fv m.mem) (sep (bH a.ow m.eV) (sep (bH a.ll a.ps) (nM (yI K m.room) a.ps m.l i)))))
section
variable {w w' w0:World}{A:Nat->Prop}{R:List HP}{p:Nat}{K:hM}{m:gU}{a:DA}{i:Nat}{tp:Ptr}{t:j1}
theorem gu.open(u:St w0 A (gu K p m::R) w):∃a,DUK K a m/\St w0 A (bY p (q7 a m)::iN a.q a.ov a.fv m.mem::bH a.ow m.eV::bH a.ll a.ps::ic (yI K m.room) a.ps m.l::R) w:=by
 obtain⟨a,u⟩:=u.eo;obtain⟨B,u⟩:=u.mC;exact⟨a,B,sU u⟩
theorem gu.shut(u:DUK K a m)(B:St w0 A (bY p (q7 a m)::iN a.q a.ov a.fv m.mem::bH a.ow m.eV::bH a.ll a.ps::ic (yI K m.room) a.ps m.l::R) w):St w0 A (gu K p m::R) w:=
 St.ep a (St.oA u (sV B))
theorem m9.open(u:St w0 A (m9 K p m i tp::R) w):∃a,(DUK K a m/\a.ps[i]?=some tp/\a.ps.length=m.l.length/\i<m.l.length)/\St w0 A (bY p (q7 a m)::iN a.q a.ov a.fv m.mem::bH a.ow m.eV::bH a.ll a.ps::nM (yI K m.room) a.ps m.l i::R) w:=by
 obtain⟨a,u⟩:=u.eo;obtain⟨B,u⟩:=u.mC;exact⟨a,B,sU u⟩
theorem m9.shut(u:DUK K a m/\a.ps[i]?=some tp/\a.ps.length=m.l.length/\i<m.l.length)(B:St w0 A (bY p (q7 a m)::iN a.q a.ov a.fv m.mem::bH a.ow m.eV::bH a.ll a.ps::nM (yI K m.room) a.ps m.l i::R) w):St w0 A (m9 K p m i tp::R) w:=
 St.ep a (St.oA u (sV B))
structure arb(K:hM)(w:World)(p:Nat)(m:gU)(a:DA):Prop where
 uk:DUK K a m
 b:mW w p (q7 a m)
 mem:yH w a.q m.mem
 ow:dA (λ_=>True) w a.ow m.eV
 ll:dA (λ_=>True) w a.ll a.ps
 th:∀(i:Nat) (s:Ptr) (t:j1),a.ps[i]?=some s->m.l[i]?=some t->Has (rM K s.b m.room t) w
 len:a.ps.length=m.l.length
theorem gu.rd(h:Has (gu K p m) w)(E:K w):∃a,arb K w p m a:=by
 obtain⟨F,u⟩:=h.st
 obtain⟨a,B,u⟩:=gu.open u
 exact⟨a,B,u.hb,JM u.p1 (B.mem _ E),u.p2.dS,u.p3.dS,λi s t h1 h2=>u.p4.ah0 h1 h2 (Φ:=λw=>Has (rM K s.b m.room t) w) λh=>⟨_,h⟩,u.p4.iZ⟩
theorem ZB{ps:List Ptr}(u:St w0 A (ic (yI K m.room) ps m.l::R) w)(B:ps[i]?=some tp)(ht:m.l[i]?=some t):St w0 A (rM K tp.b m.room t::nM (yI K m.room) ps m.l i::R) w:=u.focus B ht
theorem xK(B:St w0 A (rM K tp.b m.room t::m9 K p m i tp::R) w):St w0 A (gu K p {m with l:=m.l.set i t}::R) w:=by
 obtain⟨a,⟨u,E,G,hi⟩,B⟩:=m9.open B.p1
 have h1:St w0 A (yI K m.room tp t::nM (yI K m.room) a.ps m.l i::_) w:=B.p4.p5
 have h2:=h1.DE hi G E
 have h3:=h2.p4.p4.p4.p4
 exact gu.shut (m:={m with l:=m.l.set i t}) ⟨u.pr,u.cs,u.ks,u.mem,u.rc⟩ h3
end
def sX(m:gU)(t:j1):Bool:=match pj t.cE with
 | none=>false
 | some (x,_,_)=>if t.fault≠0\/x.kind=2 then true else if x.kind=3\/x.kind=5\/x.kind=6\/x.kind=7 then !decide (m.room<=t.buf.length)
  else if x.kind=9/\m.eV.getD (cU (cM m.p) x.name).toNat 0≠-1 then false else decide (t.buf.length=0)
def rN(m:gU)(i:Nat)(t:j1):List aS:=(if sX m t=true then [⟨1,i,0,[]⟩]else [])++(pF t.buf).map λk=>⟨2,i,k,[]⟩
def il(m:gU)(k:Nat):List aS:=(u7 k).flatMap λi=>match m.l[i]? with|some t=>rN m i t|none=>[]
def gV(m:gU):List aS:=if m.fault≠0 then []else il m m.l.length
theorem ur{m:gU}{k:Nat}{t:j1}(h:m.l[k]?=some t):il m (k+1)=il m k++rN m k t:=by
 unfold il;rw[Kl,Ns];simp[h]
def ZC(t:j1):Prop:=t.fault=0->∀x a b,pj t.cE=some (x,a,b)->(2<=x.kind/\x.kind<=10)/\(eJ t x.e).2=true/\(eJ t x.f).2=true
structure oN(m:gU):Prop where
 mem:wI m.mem
 th:∀t∈m.l,yv (cT m.p) (cM m.p) t
 tl:m.l.length<=1000
 ow:m.eV.length=(cM m.p).length
 rm:1<=m.room/\m.room<=16
 st:∀t∈m.l,ZC t
 pz:PZ m.p
def z7(l:List bI):(pF l).length<=l.length:=by grind[pF]
def Nl(m:gU)(i:Nat)(t:j1):(rN m i t).length<=1+t.buf.length:=by
 have:=z7 t.buf
 unfold rN;grind
theorem rO{m:gU}(h:oN m):∀k,(il m k).length<=k*1001
 | 0=>by simp[il]
 | k+1=>by
  have u:=rO h k
  cases ht:m.l[k]? with
  | none=>
   have e:il m (k+1)=il m k:=by unfold il;rw[Kl,Ns];simp[ht]
   grind
  | some t=>
   rw[ur ht,l1]
   have:=Nl m k t
   have:=(h.th t (la ht)).bl
   omega
def FT{m:gU}(h:oN m):(gV m).length<=1001000:=by
 unfold gV;split
 .simp
 exact xe (rO h _) (Nat.mul_le_mul_right 1001 h.tl)
def im(m:gU)(t:j1)(c:Int):Int:=if (lB t.buf c).isSome=true then(lB t.buf c).getD 0 else jJ m.mem c
def dP(m:gU)(x:bQ):Int:=cU (cT m.p) x.name
def fF(m:gU)(x:bQ):Int:=cU (cM m.p) x.name
def fz(m:gU)(x:bQ):Int:=pE m.p (dP m x)
def qd(m:gU)(t:j1)(y:bI):j1:={t with buf:=sP m.room t.buf y}
def xL(m:gU)(t:j1)(x:bQ):cI:=⟨if (lB t.buf (dP m x)).isSome=true then 2 else 1,0,dP m x,im m t (dP m x),0⟩
def rP(m:gU)(t:j1)(x:bQ):gU:=if jJ m.mem (dP m x)=(eJ t x.e).1 then {m with mem:=fm m.mem (dP m x) (eJ t x.f).1}else m
def tT(m:gU)(t:j1)(x:bQ):cI:=if jJ m.mem (dP m x)=(eJ t x.e).1 then⟨8,0,dP m x,jJ m.mem (dP m x),(eJ t x.f).1⟩else⟨9,0,dP m x,jJ m.mem (dP m x),0⟩
def pG(m:gU)(x:bQ)(i:Int):gU:={m with eV:=m.eV.set (fF m x).toNat i}
def eb(m:gU)(t:j1)(i:Int)(x:bQ):gU×j1×cI:=
 if x.kind=2 then(m,pk t x.eG (im m t (dP m x)),xL m t x)
 else if x.kind=3 then(m,qd m t ⟨3,fz m x,dP m x,(eJ t x.e).1⟩,⟨3,0,dP m x,(eJ t x.e).1,0⟩)
 else if x.kind=5 then(m,qd m t ⟨5,fz m x,0,0⟩,⟨4,0,fz m x,0,0⟩)
 else if x.kind=6 then(m,qd m t ⟨6,fz m x,0,0⟩,⟨5,0,fz m x,0,0⟩)
 else if x.kind=7 then(m,qd m t ⟨7,0,0,0⟩,⟨6,0,0,0,0⟩)
 else if x.kind=8 then(m,t,⟨7,0,0,0,0⟩)
 else if x.kind=4 then(rP m t x,pk t x.eG (jJ m.mem (dP m x)),tT m t x)
 else if x.kind=9 then(pG m x i,t,⟨10,0,fF m x,0,0⟩)
 else(pG m x (-1),t,⟨11,0,fF m x,0,0⟩)
def uu(m:gU)(t:j1)(i:Int)(x:bQ):j1:=goD { (eb m t i x).2.1 with cE:=gE (eb m t i x).2.1.cE}
def iz(m:gU)(i:Int):gU×cI:=match m.l[i.toNat]? with
 | none=>(m,⟨0,0,0,0,0⟩)
 | some t=>if t.fault≠0 then({m with fault:=t.fault,jd:=i},⟨16,i,t.fault,0,0⟩)else match pj t.cE with
  | none=>(m,⟨0,0,0,0,0⟩)
  | some (x,_,_)=>if x.kind=10/\m.eV.getD (fF m x).toNat 0≠i then({m with fault:=3,jd:=i},⟨16,i,3,0,0⟩)
   else({ (eb m t i x).1 with l:=m.l.set i.toNat (uu m t i x)},{ (eb m t i x).2.2 with t:=i})
def tD(m:gU)(t:j1)(q:aS):gU:={m with mem:=jX m.mem (dH t.buf q.i),l:=m.l.set q.t.toNat {t with buf:=jW t.buf q.i}}
def H6(l:List bQ):Bk:=(tA l).getD .nil
def wE(t:cO):j1:=⟨t.dQ,sk t.dQ.length 0,ju (H6 t.body) false [],0,[]⟩
def UG(t:cO):j1:=goD (wE t)
def q8(m:gU)(l:List cO):gU:={m with eV:=sk (cM m.p).length (-1),l:=l.map UG}
def iT(m:gU)(q:aS):Option (List Int):=if q.kind=3/\q.t=0/\q.i=0/\m.fault=0 then fC m.mem q.cut else none
def pq(m:gU)(u:List Int):gU:={m with mem:=mM m.mem u,bZ:=m.bZ+1}
def vd(m:gU):List cO:=if m.p.recover.length=0 then [⟨⟨#[]⟩,[],[],0⟩]else m.p.recover
def oP(m:gU)(q:aS):gU×cI×Int:=match iT m q with
 | some u=>(q8 (pq m u) (vd m),⟨15,0,0,qM q.cut q.cut.length,0⟩,0)
 | none=>if (gV m).any (nh q)=true then
   (if q.kind=2 then(match m.l[q.t.toNat]? with|some t=>(tD m t q,tB q.t (dH t.buf q.i),0)|none=>(m,⟨0,0,0,0,0⟩,13))else((iz m q.t).1,(iz m q.t).2,0))
  else(m,⟨0,0,0,0,0⟩,13)
def mP(t:j1):Bool:=decide (t.cE.length=0)&&decide (t.buf.length=0)
def lD(m:gU):Bool:=decide (m.fault=0)&&!(u7 m.l.length).any λi=>match m.l[i]? with|some t=>!mP t|none=>false
def mQ(m:gU):Bool:=decide (m.fault=0)&&(!lD m&&decide (((gV m).length:Int)=0))
def iU(m:gU):ie:=⟨m.bZ,m.fault,m.jd,lD m,mQ m⟩
def pw(m:gU)(c:gS):Bool:=decide ((pU (gq m.p) (m.mem.l.take (eB m.p).toNat) c.e).2=0)&&decide ((pU (gq m.p) (m.mem.l.take (eB m.p).toNat) c.e).1≠0)
def fe(m:gU):List Bool:=m.p.dT.map (pw m)
def Bq(p:cB):List Int:=(u7 (cT p).length).map fun (i:Nat)=>pE p (i:Int)
def xM(p:cB)(room:Int):gU:=⟨p,room,JO (Bq p) (eB p) (eW p),[],[],0,0,0⟩
def iw(p:cB)(room:Int):gU:=q8 (xM p room) p.threads
def C141(K Φ:hM)(p:Nat)(room:Int)(t:j1)(w:World)(G:Has (eR K Φ p room t) w)(O:t.buf.length<=1000):CR 141 [.pointer (some ⟨p,0,none⟩)] w (λv w'=>v=.bool (decide (t.buf.length=0))/\Ext w w'):=by
 obtain⟨J,M,rg,pl,es,V,I,E,Y,U,W,_⟩:=eR.rd G;have B:=I.cell (o:=0) rfl;have u:=St.start w;refine eZ Tryz.func141 ?_;exact aE (aA oW (bN AD (B.ext u.aG) (dU amV u (C153 J _ _ _ (E.ext u.aG) bO) λ_ _ _ u=>aK fU u.dS (aH ⟨vb (ga.2 bO),u.drop.aG⟩))))
def C138(K Φ:hM)(p:Nat)(m:gU)(q:Nat)(t:j1)(w:World)(hm:Has (gu K p m) w)(I:∀w',Ext w w'->K w')(U:oN m)(hh:Has (eR K Φ q m.room t) w)(Cu:t∈m.l):CR 138 [.pointer (some ⟨p,0,none⟩),.pointer (some ⟨q,0,none⟩)] w (λv w'=>v=.bool (sX m t)/\Ext w w'):=by
 obtain⟨a,J⟩:=gu.rd hm (I _ (Ext.refl _));have M:=J.b.cell (o:=7) rfl;have GM:=J.b.cell (o:=10) rfl;have E:=U.th t Cu;have Hq:=E.bl;have ajM:(cM m.p).length<=500:=by unfold cM;rw[n4];exact U.pz.eK
 have nz:=DV E.p;have Fe:=E.cl;obtain⟨bp,nv,rg,pl,es,hk,sW,hB,Dm,UF,JS,_⟩:=eR.rd hh;have O:=sW.cell (o:=0) rfl;have W:=sW.cell (o:=4) rfl;have u:=St.start w;refine oL Tryz.func138 (pl:=axM) ?_;refine dM Zp (C137 K q t bp nv rg pl es _ _ sW UF JS I E.p bO) ?_;rintro v _ ⟨he,hv⟩;have u:=u.ext he
 rcases hv with⟨eH,rfl⟩|⟨x,xa,xb,xv,av,bv,ra,rb,Cs,rfl,Aj,_⟩
 .exact aN rfl (aN rfl (aN rfl (aN rfl (aM u jA λ_ _ u=>aJ (x:=(⟨0,⟨#[]⟩,⟨#[]⟩,bW,bW,0,0,0,0⟩:bE)) u eN rfl rfl λ_ u=>bR (iB ⟨vb (by unfold sX;rw[eH]),u.drop.aG⟩)))))
 obtain⟨ge,gf,rfl,_,_⟩:=jh (Aj _ (I _ u.aG));have hx:=(E.top Cs).1;have B:sX m t=(if t.fault≠0\/x.kind=2 then true else if x.kind=3\/x.kind=5\/x.kind=6\/x.kind=7 then !decide (m.room<=t.buf.length)else if x.kind=9/\m.eV.getD (cU (cM m.p) x.name).toNat 0≠-1 then false else decide (t.buf.length=0)):=by unfold sX;rw[Cs]
 refine aN rfl (aN rfl (aN rfl (aN rfl (aM u jA λb5 w2 u=>aJ (x:=(⟨x.kind,x.eG,x.name,ge,gf,x.n,x.body,x.ey,x.at_⟩:bE)) u eN rfl rfl λw3 u=>bR (fw ?_)))));refine⟨λG w'=>G=.bool (decide (t.fault≠0\/x.kind=2))/\w'=w3,?_,?_⟩
 .exact aE (aA wV (bN bL (W.ext u.aG) (bX (aC (λ_=>⟨vb (ew bO).symm,rfl⟩) λ_=>aA dO (aB (v:=hZ x.kind) bL u.hb rfl (aH ⟨vb (ga.2 bO),rfl⟩))))))
 rintro _ w4 ⟨rfl,rfl⟩ _;refine aC (λY=>?_) (λY=>?_)
 .exact⟨vb (by rw[B,ej Y]),u.drop.aG⟩
 rw[ei Y]at B;refine⟨λG w'=>G=.bool (decide (x.kind=3\/x.kind=5\/x.kind=6\/x.kind=7))/\w'=w4,?_,?_⟩
 .refine aA dO (aB (v:=hZ x.kind) bL u.hb rfl ?_);exact aH (aC (λ_=>⟨vb (ew bO).symm,rfl⟩) λ_=>aA dO (aB (v:=hZ x.kind) bL u.hb rfl (aH (aC (λ_=>⟨vb (ew bO).symm,rfl⟩) λ_=>aA dO (aB (v:=hZ x.kind) bL u.hb rfl (aH (aC (λ_=>⟨vb (ew bO).symm,rfl⟩) λ_=>aA dO (aB (v:=hZ x.kind) bL u.hb rfl (aH ⟨vb (ga.2 bO),rfl⟩)))))))))
 rintro _ _ ⟨rfl,rfl⟩ _;refine aC (λZ=>?_) (λZ=>?_)
 .exact aE (aA oW (bN AD (O.ext u.aG) (aV afL u (C215 bp _ _ _ (hB.ext u.aG)) λ_ _ u=>bR ⟨vb (by rw[B,ej Z]),u.drop.aG⟩)))
 rw[ei Z]at B;refine⟨λG w'=>G=.bool (decide (x.kind=9/\m.eV.getD (cU (cM m.p) x.name).toNat 0≠-1))/\St w aZ [bY b5 (kp (⟨x.kind,x.eG,x.name,ge,gf,x.n,x.body,x.ey,x.at_⟩:bE))] w',?_,?_⟩
 .have u:=u.drew;refine aA dO (aB (v:=hZ x.kind) bL u.hb rfl (aH (aC (λc3=>?_) λ_=>⟨vb (fP bO).symm,u⟩)));obtain⟨j,hj,Bj,_⟩:=lY (dK.1 (hx.lk (.inl c3)));have Ef:=(kO.1 Bj).1;have how:=U.ow;refine aE (aA vv (bN eh (GM.ext u.aG) (aE (aA I6 (bN jj (M.ext u.aG) (aA gh (aB (v:=.string x.name) gA u.hb rfl (aV HD u (C159 _ (cM m.p) x.name _ (J.uk.ks _ (I _ u.aG)) bO) λ_ he u=>?_))))))));refine⟨aF eh (GM.ext u.aG),?_⟩;obtain⟨ov,ZD⟩:=gx m.eV (i:=(cU (cM m.p) x.name).toNat) bO
  refine aQ cS (J.ow.ext u.aG) bO ZD (λq71 V=>aD bL V (bX ?_));refine⟨vb (ga.2 ?_),u⟩;rw[oj,ZD];exact⟨λh=>⟨c3,h⟩,λh=>h.2⟩
 rintro _ _ ⟨rfl,u⟩ _;refine aC (λc4=>?_) (λc4=>?_)
 .exact⟨vb (by rw[B,ej c4]),u.drop.aG⟩
 exact aV ag2 u (C141 K Φ q m.room t _ (hh.ext u.aG) Hq) (λ_ _ u=>⟨vb (by rw[B,ei c4]),u.drop.aG⟩)
def C67(K:hM)(p:Nat)(m:gU)(w:World)(W:Has (gu K p m) w)(Z:∀w',Ext w w'->K w')(I:oN m):CR 67 [.pointer (some ⟨p,0,none⟩)] w (λv w'=>kV (fV v (gV m)) w w'):=by
 obtain⟨a,E⟩:=gu.rd W (Z _ (Ext.refl _));have FU:=E.b.cell (o:=11) rfl;have UH:=E.b.cell (o:=13) rfl;have hlen:=E.len;have Ok:=I.tl;have u:=St.start w;refine eZ Tryz.func67 ?_;refine aE (aA yi (bN bL (UH.ext u.aG) (bX (aC (λc=>?_) λc=>?_))))
 .have B:gV m=[]:=by unfold gV;rw[ej c]
  rw[B];exact u.Jd.fresh
 have B:gV m=il m m.l.length:=by unfold gV;rw[ei c]
 rw[B];refine aE (aA vw (bN I4 (FU.ext u.aG) (aK Lg (E.ll.ext u.aG) ?_)));refine⟨λG o y J=>∃k:Nat,y=hZ (k:Int)/\G=a.ps.length-k/\k<=a.ps.length/\St w aZ [fV o (il m k)] J,⟨_,0,rfl,rfl,l6 _,u.Jd⟩,?_⟩;rintro G o _ J ⟨k,rfl,rfl,hk,u⟩ _;have nz:=rO I k;have Rp:k*1001<=1001000:=bO
 refine aR (aC (λc1=>?_) λc1=>?_);rotate_left
 .rw[show k=m.l.length from bO]at u;exact u.fresh
 obtain⟨e,M⟩:=gx a.ps (i:=((k:Nat):Int).toNat) bO;obtain⟨t,ht⟩:=gx m.l (i:=k) bO;have Cu:=la ht;have Hq:=(I.th t Cu).bl;have VH:=E.th k e t M ht;obtain⟨bp,nv,rg,pl,es,Kp,sW,hB,Dm,UF,JS,_⟩:=eR.rd VH;have O:=sW.cell (o:=0) rfl;refine aQ Lg (E.ll.ext u.aG) bO M (λq U=>aD Hi U ?_);refine⟨λjv w'=>St w aZ [fV jv (il m k++(if sX m t=true then [(⟨1,k,0,[]⟩:aS)]else []))] w',?_,?_⟩
 .refine aV aq1 u (C138 K _ p m e.b t _ (W.ext u.aG) (λ_ e=>Z _ (u.aG.then e)) I (VH.ext u.aG) Cu) (λ_ M u=>aY (λV=>?_) λV=>?_)
  .refine pop (Ct 1 (k:Int)) (have u:=u.fr (Φ:=λw=>ml w (⟨1,(k:Int),0,bW⟩:aI) (⟨1,(k:Int),0,[]⟩:aS)) (λw=>⟨bW,rfl,DL.nil w⟩);gj (x:=(⟨1,(k:Int),0,[]⟩:aS)) (s:=(⟨1,(k:Int),0,bW⟩:aI)) u fO dD λs29 _ u=>gk u.p1 fO (by rw[mv];omega) dD λs30 _ u=>?_);rw[ej V];exact u
  rw[ei (by rw[V];decide),pd];exact u
 rintro o2 _ u _;refine aE (aA oW (bN AD (O.ext u.aG) (dU amR u (C139 bp _ _ _ (hB.ext u.aG) bO) λNm _ cJ u=>?_)));have Fe:=z7 t.buf;refine aK cS u.dS ?_;refine⟨λG o y J=>∃j:Nat,y=hZ (j:Int)/\G=(pF t.buf).length-j/\j<=(pF t.buf).length/\St w aZ [fV o (il m k++(if sX m t=true then [(⟨1,k,0,[]⟩:aS)]else [])++((pF t.buf).take j).map λi=>(⟨2,k,i,[]⟩:aS)),bH Nm (pF t.buf)] J,⟨_,0,rfl,rfl,l6 _,by rw[List.take_zero,List.map_nil,pd];exact u.p1⟩,?_⟩;rintro G o3 _ _ ⟨j,rfl,rfl,hj,u⟩ _;refine aR (aC (λc3=>?_) λc3=>?_)
 .obtain⟨y,Y⟩:=gx (pF t.buf) (i:=((j:Nat):Int).toNat) bO;exact aQ cS u.p1.dS bO Y (λ_ U=>aD bL U (pop (CZ 2 (k:Int) y) (have u:=u.fr (Φ:=λw=>ml w (⟨2,(k:Int),y,bW⟩:aI) (⟨2,(k:Int),y,[]⟩:aS)) (λw=>⟨bW,rfl,DL.nil w⟩);gj (x:=(⟨2,(k:Int),y,[]⟩:aS)) (s:=(⟨2,(k:Int),y,bW⟩:aI)) u fO dD λ_ _ u=>gk u.p1 fO (by simp only[l1,n4,l2,mv];split<;>simp<;>omega) dD λ_ _ u=>aO bO ⟨_,bO,j+1,rfl,rfl,bO,by rw[<- gi (k:=j) Y,<- n5];exact u⟩)))
 rw[ld bO]at u;refine aO bO ?_;refine⟨_,bO,k+1,rfl,rfl,bO,?_⟩;rw[ur ht];unfold rN;rw[<- n5];exact u.p1.drop
def ag6:PL 227:=dJ Tryz.func227
def axW:PL 53:=dJ Tryz.func53
def C158(K:hM)(p:Nat)(m:gU)(i kind:Int)(F:Nat->Prop)(w:World)(E:(gu K p m).p w F):CR 158 [.pointer (some ⟨p,0,none⟩),hZ i,hZ kind] w (λv w'=>v=j0 (⟨16,i,kind,0,0⟩:cI)/\mU F (gu K p {m with fault:=kind,jd:=i}) w w'):=by
 have u:=St.begin E;refine eZ Tryz.func158 ?_;obtain⟨a,B,u⟩:=gu.open u;exact aM u mz (λ_ _ u=>have u:=u.enc (cs':=kp (⟨0,0,0,0,0⟩:cI)) rfl;aE (aA yi (aT u.p1 bL (dL rfl) rfl λ_ u=>aE (aA RN (aT u bL (dL rfl) rfl λ_ u=>pop (tS 16 i kind) (aJ (x:=(⟨16,i,kind,0,0⟩:cI)) u.p1 fo rfl rfl λ_ u=>aD fo u.At ⟨rfl,(gu.shut (m:={m with fault:=kind,jd:=i}) ⟨B.pr,B.cs,B.ks,B.mem,B.rc⟩ u.drop).mut⟩))))))
def C160(K:hM)(p:Nat)(m:gU)(n:Nat)(tp:Ptr)(t:j1)(x:bQ)(Z:bE)(F:Nat->Prop)(c:Int)(w:World)(hF:(sep (rM K tp.b m.room t) (m9 K p m n tp)).p w F)(M:∀w',gz F w w'->K w')(B:yv (cT m.p) (cM m.p) t)(J:wI m.mem)(Aj:∀w,K w->ml w Z x)(Dm:0<=cU t.names x.eG):CR 160 [.pointer (some ⟨p,0,none⟩),.pointer (some ⟨tp.b,0,none⟩),j0 Z,hZ c] w (λv w'=>v=j0 (⟨if (lB t.buf c).isSome=true then 2 else 1,0,c,im m t c,0⟩:cI)/\mU F (sep (rM K tp.b m.room (pk t x.eG (im m t c))) (m9 K p m n tp)) w w'):=by
 have u:=(St.begin hF).split;obtain⟨U,V,rfl,_,_⟩:=jh (Aj _ (M _ u.aG));obtain⟨j,hj,Bj,_⟩:=lY (dK.1 Dm);have Ef:=(kO.1 Bj).1;have Zr:=B.nb;have GK:=B.rl;have Hq:=B.bl;refine aem _ _ _ _ _ _ ?_;unfold S160;refine cG (x:=(⟨x.kind,x.eG,x.name,U,V,x.n,x.body,x.ey,x.at_⟩:bE)) u (λb6 _ u=>aM u mz λb8 _ u=>?_);have u:=(u.enc (cs':=kp (⟨0,0,0,0,0⟩:cI)) rfl).p2;obtain⟨O,nv,rg,pl,es,Y,u⟩:=eR.open u;refine aE (aA oW (aB AD u.hb rfl (aV am6 u (C226 O c m.room t.buf _ (DU u.p1) bO) λ_ he u=>aN rfl (aN rfl ?_))))
 refine⟨λn9 I w'=>n9=hZ (im m t c)/\I=hZ (if (lB t.buf c).isSome=true then 2 else 1)/\St w F [bY tp.b (Bp O nv rg pl t.fault),jk O m.room t.buf,bH rg t.dQ,bH pl (Ov es),eF (λw=>DX K w es t.cE/\True),bY b8 (kp (⟨0,0,0,0,0⟩:cI)),bY b6 (kp (⟨x.kind,x.eG,x.name,U,V,x.n,x.body,x.ey,x.at_⟩:bE)),m9 K p m n tp] w',?_,?_⟩
 .refine bR (aY (λG=>?_) λG=>?_)
  .have h1:(lB t.buf c).isSome=false:=by simpa using G
   have u:=u.p7;obtain⟨a,W,u⟩:=m9.open u;exact aE (aA tG (aB Lf u.hb rfl (aV ag6 u (agZ a.q m.mem c _ (JM u.p1 (W.1.mem _ (M _ u.aG))) J) λ_ _ u=>aN rfl (aN rfl (have u:=(((((((m9.shut (m:=m) W u.p4.p4.p4.p4.p4).p7).p7).p7).p7).p7).p7).p7;⟨by unfold im;rw[ei (by rw[h1];decide)],by rw[ei (by rw[h1];decide)],u⟩)))))
  have h1:(lB t.buf c).isSome=true:=by simpa using G
  exact⟨by unfold im;rw[ej h1],by rw[ej h1],u⟩
 rintro _ _ _ ⟨rfl,rfl,u⟩ _;have u:=u.drew;refine aE (aA AH (aB eh u.hb rfl (aE (aA AG (aB jj u.hb rfl (aA iH (aB (v:=.string x.eG) gA u.p6.hb rfl (aV HD u (C159 _ t.names x.eG _ (Y _ (M _ u.aG)) bO) λ_ he u=>?_))))))));refine⟨aF eh (u.hb.cell rfl),?_⟩;exact dR u.p2 cS bO bO (λ_ E=>jw (im m t c:Int) u.p2 bL E bO λ_ u=>pop (mO (if (lB t.buf c).isSome=true then 2 else 1) c (im m t c)) (aJ (x:=(⟨if (lB t.buf c).isSome=true then 2 else 1,0,c,im m t c,0⟩:cI)) u.p5 fo rfl rfl λ_ u=>aD fo u.At (have u:=eR.shut (Φ:=λ_=>True) (t:=pk t x.eG (im m t c)) Y u.drop.p5.drop.p4.p4.p2.p4.p4;have u:=u.p1.p1;⟨rfl,(St.join u).mut⟩)))
def C163(K:hM)(p:Nat)(m:gU)(n:Nat)(tp:Ptr)(t:j1)(x:bQ)(xv:bE)(F:Nat->Prop)(w:World)(hF:(sep (rM K tp.b m.room t) (m9 K p m n tp)).p w F)(E:∀w',gz F w w'->K w')(kG:yv (cT m.p) (cM m.p) t)(U:wI m.mem)(Aj:∀w,K w->ml w xv x)(Dm:0<=cU t.names x.eG)(rB:MB m.mem 1000000)(VE:x.e.length<=1000/\x.f.length<=1000)(V:(eJ t x.e).2=true)(hv2:(eJ t x.f).2=true):CR 163 [.pointer (some ⟨p,0,none⟩),.pointer (some ⟨tp.b,0,none⟩),j0 xv,hZ (dP m x)] w (λv w'=>v=j0 (tT m t x)/\mU F (sep (rM K tp.b m.room (pk t x.eG (jJ m.mem (dP m x)))) (m9 K p (rP m t x) n tp)) w w'):=by
 have u:=(St.begin hF).split;obtain⟨W,Y,rfl,_,_⟩:=jh (Aj _ (E _ u.aG))
 have Qq:∀w,K w->dA (λ_=>True) w (j0 W) x.e/\dA (λ_=>True) w (j0 Y) x.f:=λw hw=>by
  obtain⟨_,_,h4,h5,h6⟩:=jh (Aj w hw);cases h4
  exact⟨h5,h6⟩
 obtain⟨j,hj,Bj,_⟩:=lY (dK.1 Dm);have Ef:=(kO.1 Bj).1;have Zr:=kG.nb;have GK:=kG.rl;have ht1:{t with fault:=if (eJ t x.e).2=true then t.fault else 2}=t:=by rw[V];rfl
 have ht2:{t with fault:=if (eJ t x.f).2=true then t.fault else 2}=t:=by rw[hv2];rfl
 obtain⟨c,hc⟩:∃c,c=dP m x:=⟨_,rfl⟩;rw[<- hc];refine aen _ _ _ _ _ _ ?_;unfold S163;refine cG (x:=(⟨x.kind,x.eG,x.name,W,Y,x.n,x.body,x.ey,x.at_⟩:bE)) u (λb6 _ u=>aM u mz λb8 _ u=>?_);have u:=(u.enc (cs':=kp (⟨0,0,0,0,0⟩:cI)) rfl).p3;obtain⟨a,B,u⟩:=m9.open u;refine aE (aA tG (aB Lf u.hb rfl (aV ag6 u (agZ a.q m.mem c _ (JM u.p1 (B.1.mem _ (E _ u.aG))) U) λ_ he u=>aN rfl (aN rfl (aA iX (aB (v:=j0 W) jz u.p6.hb rfl (have u:=u.p7;bF M8 u (H':=λ_=>rM K tp.b m.room t) (Φ:=λv _=>v=.tuple #[hZ (eJ t x.e).1,.bool (eJ t x.e).2]) (λM I J=>?_) ?_)))))))
 .have:=C161 K _ tp.b m.room t M _ x.e _ I (λw' hc=>E w' (J w' hc).aG) (Qq _ (E _ u.aG)).1 bO bO;rw[ht1]at this;exact this
 rintro _ _ rfl u;refine aN rfl (aN rfl (aA j9 (aB (v:=j0 Y) jz u.p7.hb rfl (bF M8 u (H':=λ_=>rM K tp.b m.room t) (Φ:=λv _=>v=.tuple #[hZ (eJ t x.f).1,.bool (eJ t x.f).2]) (λM I J=>?_) ?_))))
 .have:=C161 K _ tp.b m.room t M _ x.f _ I (λw' hc=>E w' (J w' hc).aG) (Qq _ (E _ u.aG)).2 bO bO;rw[ht2]at this;exact this
 rintro _ _ rfl u;refine aN rfl (aN rfl ?_);obtain⟨bp,nv,rg,pl,es,hk,u⟩:=eR.open u;have u:=u.drew;refine aE (aA AH (aB eh u.hb rfl (aE (aA AG (aB jj u.hb rfl (aA iH (aB (v:=.string x.eG) gA u.p11.hb rfl (aV HD u (C159 _ t.names x.eG _ (hk _ (E _ u.aG)) bO) λ_ he u=>?_))))))));refine⟨aF eh (u.hb.cell rfl),?_⟩;refine dR u.p2 cS bO bO (λ_ Z=>jw (jJ m.mem c:Int) u.p2 bL Z bO λw6' u=>have u:=eR.shut (Φ:=λ_=>True) (t:=pk t x.eG (jJ m.mem c)) hk u.p4.p4.p2.p4.p4;bX (aC (λO=>?_) λO=>?_))
 .have G:rP m t x=m:=by unfold rP;rw[<- hc,ei O]
  have zZ:tT m t x=⟨9,0,c,jJ m.mem c,0⟩:=by unfold tT;rw[<- hc,ei O]
  refine pop (mO 9 c (jJ m.mem c)) (aJ (x:=(⟨9,0,c,jJ m.mem c,0⟩:cI)) u.p6 fo rfl rfl λ_ u=>aD fo u.At ?_);have u:=(m9.shut (m:=m) B u.drop.p6.drop.p5.p5.p5.p5.p5).p1;rw[G,zZ];exact⟨rfl,(St.join u).mut⟩
 have G:rP m t x={m with mem:=fm m.mem c (eJ t x.f).1}:=by unfold rP;rw[<- hc,ej (by simpa using O)]
 have zZ:tT m t x=⟨8,0,c,jJ m.mem c,(eJ t x.f).1⟩:=by unfold tT;rw[<- hc,ej (by simpa using O)]
 refine aE (aA tG (aB Lf u.p1.hb rfl (have u:=u.p2;bF afG u (H':=λ_=>iN a.q a.ov a.fv (fm m.mem c (eJ t x.f).1)) (Φ:=λ_ _=>True) (λM I J=>?_) ?_)))
 .exact(C156 a.q a.ov a.fv m.mem M c _ _ I (λw' hc=>B.1.mem _ (E w' (J w' hc).aG)) U rB).mono λ_ _ r=>r.mono λ_ _ h=>⟨trivial,h.2⟩
 rintro _ _ _ u;refine pop (zn 8 c (jJ m.mem c) (eJ t x.f).1) (aJ (x:=(⟨8,0,c,jJ m.mem c,(eJ t x.f).1⟩:cI)) u.p6 fo rfl rfl λ_ u=>aD fo u.At ?_);have u:=m9.shut (m:={m with mem:=fm m.mem c (eJ t x.f).1}) (⟨⟨B.1.pr,B.1.cs,B.1.ks,λw hw=>(B.1.mem w hw).write,B.1.rc⟩,B.2⟩) u.drop.p6.drop.p5.p5.p5.p3.p5;have u:=u.p1;rw[G,zZ];exact⟨rfl,(St.join u).mut⟩
def C87(cv:Value)(cut:List Int)(w:World)(G:dA (λ_=>True) w cv cut)(O:cut.length<=1000000):CR 87 [cv] w (λv w'=>v=hZ (qM cut cut.length)/\Ext w w'):=by
 have u:=St.start w;refine ajI _ _ _ ?_;unfold S87;refine aK cS (G.ext u.aG) ?_;refine⟨λE n x I=>∃k:Nat,n=hZ (qM cut k)/\x=hZ (k:Int)/\E=cut.length-k/\k<=cut.length/\St w aZ [] I,⟨_,0,rfl,rfl,rfl,l6 _,u⟩,?_⟩;rintro E _ _ I ⟨k,rfl,rfl,rfl,U,u⟩ _;refine aR (aC (λV=>?_) λ_=>⟨by rw[show cut.length=k from bO],u.aG⟩);obtain⟨B,J⟩:=gx cut (i:=(k:Int).toNat) bO;exact aQ cS G bO J (λ_ M=>aD bL (M.ext u.aG) (xc (uO (aO bO ⟨_,bO,k+1,by rw[FN (k:=k) J],rfl,rfl,bO,u⟩))))
def C88(q x:aS)(W:aI)(b:Nat)(V:aI)(w:World)(Z:ml w W q)(B:At (λ_=>True) w (.pointer (some ⟨b,0,none⟩)) V)(O:ml w V x):CR 88 [j0 W,(.pointer (some ⟨b,0,none⟩))] w (λv w'=>v=.bool (nh x q)/\Ext w w'):=by
 obtain⟨G,rfl,atw⟩:=Z;obtain⟨E,rfl,J⟩:=O;have u:=St.start w;refine eZ Tryz.func88 ?_;refine cG u (λU _ u=>⟨λjv w'=>jv=.bool (nh x q)/\St w aZ [bY U (kp (⟨q.kind,q.t,q.i,G⟩:aI))] w',?_,?_⟩)
 .refine aA mZ (aB (v:=hZ q.kind) bL u.hb rfl (bV x.kind mZ B rfl rfl λ_ M=>aD bL (M.ext u.aG) (aH (aC (λgH=>aA lG (aB (v:=hZ q.t) bL u.hb rfl (bV x.t lG B rfl rfl λ_ XR=>aD bL (XR.ext u.aG) (aH (aC (λjH=>aA qj (aB (v:=hZ q.i) bL u.hb rfl (bV x.i qj B rfl rfl λ_ Y=>aD bL (Y.ext u.aG) (aH (aC (λkW=>?_) λ_=>⟨vb (by unfold nh;first|(simp_all;done)|grind),u⟩))))) λ_=>⟨vb (by unfold nh;first|(simp_all;done)|grind),u⟩))))) λ_=>⟨vb (by unfold nh;first|(simp_all;done)|grind),u⟩))))
  refine bV E me B rfl rfl (λ_ xf=>aD eh (xf.ext u.aG) ?_);have I:=DL.flat J;exact aK cS (I.ext u.aG) (aH ⟨vb (by unfold nh;first|(simp_all;done)|grind),u⟩)
 rintro _ _ ⟨rfl,u⟩ _;exact⟨rfl,u.drop.aG⟩
theorem mW.ext{w w':World}{b:Nat}{cs:List Value}(h:mW w b cs)(e:Ext w w'):mW w' b cs:=h.of_eq (e.bY b h.lt λh=>h)
def Cv(s:ByteArray)(a:Int)(t:ByteArray):Bool:=decide (a+t.size<=s.size)&&decide (s.extract a.toNat (a+t.size).toNat=t)
def whF(p:UInt8->Bool)(s:ByteArray):Nat->Nat->Nat
 | 0,a=>a
 | n+1,a=>match (iQ s)[a]? with
  | some c=>if p c=true then whF p s n (a+1)else a
  | none=>a
def wF(p:UInt8->Bool)(s:ByteArray)(a:Nat):Nat:=whF p s (s.size-a) a
section
variable {p:UInt8->Bool}{s:ByteArray}{k:Nat}{c:UInt8}
theorem JX(h:s.size<=k):wF p s k=k:=by unfold wF;simp_all[whF]
theorem q9(h:(iQ s)[k]?=some c):k<s.size:=by have:=(kO.1 h).1;rw[eX]at this;exact this
theorem FV(h:(iQ s)[k]?=some c)(B:p c=true):wF p s k=wF p s (k+1):=by
 have u:=q9 h
 unfold wF
 rw[show s.size-k=(s.size-(k+1))+1 from bO,whF,h]
 grind
theorem FW(h:(iQ s)[k]?=some c)(B:p c=false):wF p s k=k:=by
 have u:=q9 h
 unfold wF
 rw[show s.size-k=(s.size-(k+1))+1 from bO,whF,h]
 grind
end
def ux(c:UInt8):Bool:=decide (c.toNat=32\/c.toNat=9\/c.toNat=10\/c.toNat=13)
def xN(c:UInt8):Bool:=decide (c.toNat≠10)
def sY(c:UInt8):Bool:=gD c.toNat||kx c.toNat
def wG(c:UInt8):Bool:=kx c.toNat
def lE(s:ByteArray):Nat->Nat->Option Nat
 | 0,_=>none
 | n+1,a=>match (iQ s)[a]? with
  | none=>some a
  | some c=>if ux c=true then lE s n (a+1)else if Cv s a ⟨#[47,47]⟩=true then lE s n (wF xN s a)else some a
theorem Qr{s:ByteArray}{n a r:Nat}(h:lE s n a=some r):∃k,n=k+1:=by
 cases n with
 | zero=>cases h
 | succ k=>grind
section
variable {s:ByteArray}{n a r:Nat}{c:UInt8}
theorem UI(h:lE s (n+1) a=some r)(u:s.size<=a):r=a:=by
 unfold lE at h;rw[n0 (by rw[eX];exact u)]at h;grind
theorem C0(h:lE s (n+1) a=some r)(hc:(iQ s)[a]?=some c)(hb:ux c=true):lE s n (a+1)=some r:=by
 grind[lE]
theorem H7(h:lE s (n+1) a=some r)(hc:(iQ s)[a]?=some c)(hb:ux c=false)(u:Cv s a ⟨#[47,47]⟩=true):lE s n (wF xN s a)=some r:=by
 grind[lE,wF,xN]
theorem Nn(h:lE s (n+1) a=some r)(hc:(iQ s)[a]?=some c)(hb:ux c=false)(u:Cv s a ⟨#[47,47]⟩=false):r=a:=by
 unfold lE at h;grind
theorem ZF:∀(n a:Nat) (p:UInt8->Bool),a<=whF p s n a/\whF p s n a<=max a s.size
 | 0,a,p=>⟨pb _,by unfold whF;omega⟩
 | n+1,a,p=>by
  unfold whF
  cases h:(iQ s)[a]? with
  | none=>grind
  | some c=>
   dsimp only
   split
   .have:=ZF n (a+1) p;have:=q9 h;omega
   omega
theorem Qs(p:UInt8->Bool):a<=wF p s a/\wF p s a<=max a s.size:=ZF _ _ _
theorem Br:∀{n a r:Nat},lE s n a=some r->a<=s.size->a<=r/\r<=s.size
 | 0,_,_,h,_=>by cases h
 | n+1,a,r,h,u=>by
  cases hc:(iQ s)[a]? with
  | none=>unfold lE at h;grind
  | some c=>
   have B:=q9 hc
   cases hb:ux c with
   | true=>have:=Br (C0 h hc hb) bO;omega
   | false=>
    cases hr:Cv s a ⟨#[47,47]⟩with
    | true=>have h1:=Qs (s:=s) (a:=a) xN;have:=Br (H7 h hc hb hr) bO;omega
    | false=>have:=Nn h hc hb hr;omega
end
def Dn:List ByteArray:=[⟨#[61,61]⟩,⟨#[33,61]⟩,⟨#[60,61]⟩,⟨#[38,38]⟩,⟨#[124,124]⟩]
def qR(s:ByteArray)(a:Nat)(c:UInt8):Int:=if Dn.any (Cv s a)=true then 2 else if (iQ (kE #[40,41,123,125,59,44,61,60,33,43,45,42,47,37])).any (λx=>decide ((x.toNat:Int)=c.toNat))=true then 1 else 0
def tU(l:List bT)(i:Int)(t:ByteArray):Bool:=decide (0<=i)&&(match l[i.toNat]? with|some x=>decide (x.text=t)&&decide (x.kind≠2)&&decide (1<=x.kind)&&decide (x.kind<=3)|none=>false)
def nu(l:List bT)(i:Int):Int:=match (if 0<=i then l[i.toNat]? else none)with
 | some x=>x.at_
 | none=>match l.getLast? with
  | some x=>x.at_+x.text.size
  | none=>0
def aes:∀t∈Dn,t.size<=1000000:=dD
def sZ{l:List bT}{i:Int}{t:ByteArray}(h:tU l i t=true):0<=i/\i<l.length:=by
 unfold tU at h
 grind
def C254(s t:ByteArray)(i:Int)(w:World)(J:s.size<=1000000)(E:t.size<=1000000)(I:0<=i/\i<=2000000):CR 254 [.string s,hZ i,.string t] w (λv w'=>v=.bool (Cv s i t)/\Ext w w'):=by
 have G:=St.start w;refine eZ Tryz.func254 ?_;refine⟨λu w'=>u=.bool (Cv s i t)/\w=w',fj iq (aO bO (fj iq (gZ (aC (λ_=>fj iq (aO bO (Lz iq bO bO bO (jK ⟨vb (by unfold Cv;grind),rfl⟩)))) λ_=>⟨vb (by unfold Cv;grind),rfl⟩)))),?_⟩;rintro _ _ ⟨rfl,B⟩ _;subst B;exact⟨rfl,G.aG⟩
theorem C205(s:ByteArray)(i N r:Nat)(w:World)(hz:s.size<=4000)(h0:i<=s.size)(hr:lE s N i=some r):CR 205 [.string s,hZ (i:Int)] w (λv w'=>v=hZ (r:Int)/\Ext w w'):=by
 have hz0:=hz;replace hz:s.size<=1000000:=bO
 have u:=St.start w;refine eZ Tryz.func205 ?_;refine⟨λE x M=>∃a:Nat,x=hZ (a:Int)/\a<=s.size/\lE s E a=some r/\St w aZ [] M,⟨N,i,rfl,h0,hr,u⟩,?_⟩;rintro E _ M ⟨a,rfl,ha,J,u⟩ _;obtain⟨k,rfl⟩:=Qr J;refine fj iq (aR (aC (λjL=>?_) λjL=>?_))
 .obtain⟨XM,G⟩:∃V,(iQ s)[(a:Int).toNat]?=some V:=⟨_,l0 (by rw[eX];omega)⟩;refine jY iq bO G ⟨λjv w'=>jv=.bool (ux XM)/\M=w',nL (aC (λ_=>⟨vb (by unfold ux;first|exact(ew bO).symm|exact ga.2 bO),rfl⟩) λ_=>nL (aC (λ_=>⟨vb (by unfold ux;first|exact(ew bO).symm|exact ga.2 bO),rfl⟩) λ_=>nL (aC (λ_=>⟨vb (by unfold ux;first|exact(ew bO).symm|exact ga.2 bO),rfl⟩) λ_=>nL ⟨vb (by unfold ux;first|exact(ew bO).symm|exact ga.2 bO),rfl⟩))),?_⟩
  rintro _ _ ⟨rfl,Z⟩ _;subst Z;refine aY (λU=>?_) (λU=>aV afP u (C254 s (kE #[47,47]) (a:Int) _ hz dD bO) λ_ he u=>aY (λmi=>?_) λmi=>?_)
  .refine aO bO ?_;have T6:=q9 G;exact⟨k,bO,a+1,rfl,bO,C0 J G U,u⟩
  .refine⟨λE x M=>∃j:Nat,x=hZ (j:Int)/\E=s.size-j/\a<=j/\j<=s.size/\wF xN s a=wF xN s j/\St w aZ [] M,⟨_,a,rfl,rfl,pb _,ha,rfl,u⟩,?_⟩;rintro E _ w4 ⟨j,rfl,rfl,haj,hj,iV,u⟩ _;refine⟨λjv w'=>jv=.bool (match (iQ s)[j]? with|some c=>xN c|none=>false)/\w4=w',fj iq (aR (aC (λmj=>?_) λmj=>⟨vb (by first|(rw[show(iQ s)[j]?=some xG from W];unfold xN;exact ga.2 bO)|(rw[n0 (by rw[eX];omega)])),rfl⟩)),?_⟩
   .obtain⟨xG,W⟩:∃V,(iQ s)[(j:Int).toNat]?=some V:=⟨_,l0 (by rw[eX];omega)⟩;exact jY iq bO W (WX ⟨vb (by first|(rw[show(iQ s)[j]?=some xG from W];unfold xN;exact ga.2 bO)|(rw[n0 (by rw[eX];omega)])),rfl⟩)
   rintro _ _ ⟨rfl,Z⟩ _;subst Z;refine aY (λB=>?_) (λB=>?_)
   .refine aO bO ?_
    have O:∃c,(iQ s)[j]?=some c/\xN c=true:=by
     cases hc:(iQ s)[j]? with
     | none=>rw[hc]at B;cases B
     | some c=>rw[hc]at B;exact⟨c,rfl,B⟩
    obtain⟨cj,Dp,UJ⟩:=O;have Ef:=q9 Dp;exact⟨_,bO,j+1,rfl,rfl,bO,bO,iV.trans (FV Dp UJ),u⟩
   have ax1:wF xN s j=j:=by
    by_cases hjs:j<s.size
    .obtain⟨cj,O⟩:∃c,(iQ s)[j]?=some c:=⟨_,l0 (by rw[eX];exact hjs)⟩;rw[O]at B;exact FW O B
    .exact JX bO
   have I:=H7 J G U mi;rw[iV,ax1]at I;exact⟨k,bO,j,rfl,hj,I,u⟩
  have Y:=Nn J G U (by exact_mod_cast mi);subst Y;exact⟨rfl,u.aG⟩
 have Y:=UI J bO;subst Y;exact⟨rfl,u.aG⟩
def C208(s:ByteArray)(i:Nat)(c:UInt8)(w:World)(hz:s.size<=1000000)(hc:(iQ s)[i]?=some c):CR 208 [.string s,hZ (i:Int)] w (λv w'=>v=hZ (qR s i c)/\Ext w w'):=by
 have hi:=q9 hc;have u:=St.start w;refine oL Tryz.func208 (pl:=auP) ?_;refine bD Dn u iD rfl rfl (dL rfl) (λM J u=>?_);refine⟨λE x J=>∃k:Nat,x=hZ (k:Int)/\E=Dn.length-k/\k<=Dn.length/\(∀y∈Dn.take k,Cv s i y=false)/\St w aZ [bH M Dn] J,⟨_,0,rfl,rfl,l6 _,ee,u⟩,?_⟩;rintro E _ _ ⟨k,rfl,rfl,hk,G,u⟩ _;refine aK iD u.dS ?_;have Ok:Dn.length=5:=rfl;refine aR (aC (λxi=>?_) λxi=>?_)
 .obtain⟨U,I⟩:=gx Dn (i:=(k:Int).toNat) bO;exact dR u iD bO bO (λ_ Mt=>gP u gA Mt I (aV afP u (C254 s U (i:Int) _ hz (aes _ (la I)) bO) λ_ _ u=>aY (λiP=>⟨gQ (n3 .i64) (by unfold qR;rw[ej (ig I iP)]),u.drop.aG⟩) λiP=>aO bO ⟨_,bO,k+1,rfl,rfl,bO,dY G I iP,u⟩))
 have u:=u.drop;refine⟨λE x J=>∃j:Nat,x=hZ (j:Int)/\E=(kE #[40,41,123,125,59,44,61,60,33,43,45,42,47,37]).size-j/\j<=(kE #[40,41,123,125,59,44,61,60,33,43,45,42,47,37]).size/\(∀y∈(iQ (kE #[40,41,123,125,59,44,61,60,33,43,45,42,47,37])).take j,decide ((y.toNat:Int)=c.toNat)=false)/\St w aZ [] J,⟨_,0,rfl,rfl,l6 _,ee,u⟩,?_⟩;rintro E _ _ ⟨j,rfl,rfl,hj,Y,u⟩ _;refine fj iq ?_;have Ku:(kE #[40,41,123,125,59,44,61,60,33,43,45,42,47,37]).size=14:=rfl;refine aR (aC (λyY=>?_) λyY=>?_)
 .obtain⟨e_x31,W⟩:∃O,(iQ (kE #[40,41,123,125,59,44,61,60,33,43,45,42,47,37]))[(j:Int).toNat]?=some O:=⟨_,l0 (by rw[eX];omega)⟩;refine jY iq bO W ?_;obtain⟨va,pf⟩:∃O,(iQ s)[(i:Int).toNat]?=some O:=⟨_,l0 (by rw[eX];omega)⟩;refine jY iq bO pf ?_;obtain rfl:=oq.inj (pf.symm.trans hc);refine nL (aC (λZ=>?_) λZ=>aO bO (have u:=u.drew;⟨_,bO,j+1,rfl,rfl,bO,dY Y W (fP Z),u⟩));have u:=u.drew;have B:Dn.any (Cv s i)=false:=iE (by rw[ld bO]at G;exact G)
  exact⟨gQ (n3 .i64) (by unfold qR;rw[ei (by rw[B];simp),ej (ig W (ew Z))]),u.aG⟩
 have B:Dn.any (Cv s i)=false:=iE (by rw[ld bO]at G;exact G);have V:=iE (g:=λx:UInt8=>decide ((x.toNat:Int)=c.toNat)) (by rw[ld (by rw[eX];omega)]at Y;exact Y);exact⟨gQ (n3 .i64) (by unfold qR;rw[ei (by rw[B];simp),ei (by rw[V];simp)]),u.aG⟩
def C209(lv:Value)(l:List bT)(i:Int)(t:ByteArray)(w:World)(E:dA (λ_=>True) w lv l)(hn:l.length<=1000000):CR 209 [lv,hZ i,.string t] w (λv w'=>v=.bool (tU l i t)/\Ext w w'):=by
 have B:=St.start w;refine eZ Tryz.func209 ?_;refine⟨λjv w'=>jv=.bool (tU l i t)/\w=w',cR (aC (λW=>aK fM (E.ext B.aG) (aR (aC (λxi=>?_) λxi=>⟨vb (by unfold tU;first|(rw[u];grind)|(rw[fP bO];rfl)|(rw[n0 bO];simp)),rfl⟩))) λW=>⟨vb (by unfold tU;first|(rw[u];grind)|(rw[fP bO];rfl)|(rw[n0 bO];simp)),rfl⟩),?_⟩
 .obtain⟨G,u⟩:=gx l (i:=(i).toNat) bO;refine aQ fM E bO u (λ_ M=>bV G.text nG M rfl rfl λ_ O=>aD gA (O.ext B.aG) (jK (aC (λiP=>?_) λiP=>⟨vb (by unfold tU;first|(rw[u];grind)|(rw[fP bO];rfl)|(rw[n0 bO];simp)),rfl⟩)));refine aQ fM E bO u (λ_ Z=>?_);exact bV G.kind lO Z rfl rfl (λ_ U=>aD bL (U.ext B.aG) (bX (aC (λrC=>aQ fM E bO u λ_ LL=>bV G.kind lO LL rfl rfl λ_ A1=>aD bL (A1.ext B.aG) (cR (aC (λI=>aQ fM E bO u λ_ V=>bV G.kind lO V rfl rfl λ_ J=>aD bL (J.ext B.aG) (gZ ⟨vb (by unfold tU;first|(rw[u];grind)|(rw[fP bO];rfl)|(rw[n0 bO];simp)),rfl⟩)) λI=>⟨vb (by unfold tU;first|(rw[u];grind)|(rw[fP bO];rfl)|(rw[n0 bO];simp)),rfl⟩))) λrC=>⟨vb (by unfold tU;first|(rw[u];grind)|(rw[fP bO];rfl)|(rw[n0 bO];simp)),rfl⟩)))
 rintro _ _ ⟨rfl,Y⟩ _;subst Y;exact⟨rfl,B.aG⟩
def C214(lv:Value)(l:List bT)(i:Int)(w:World)(B:dA (λ_=>True) w lv l)(hn:l.length<=1000000)(sJ:∀x∈l,0<=x.at_/\x.at_<=1000000/\x.text.size<=1000000):CR 214 [lv,hZ i] w (λv w'=>v=hZ (nu l i)/\Ext w w'):=by
 have u:=St.start w;refine oL Tryz.func214 (pl:=auS) ?_;refine⟨λjv w'=>jv=.bool (decide (0<=i/\i<l.length))/\w=w',cR (aC (λ_=>aK fM (B.ext u.aG) (aR ⟨yN bO,rfl⟩)) λ_=>⟨jvF bO,rfl⟩),?_⟩;rintro _ _ ⟨rfl,hw⟩ _;subst hw;refine aC (λnN=>?_) (λnN=>aK fM (B.ext u.aG) (aH (aC (λY=>?_) λY=>?_)))
 .obtain⟨EK,M⟩:=gx l (i:=(i).toNat) bO;exact aQ fM B bO M (λ_ O=>bV EK.at_ lP O rfl rfl λ_ U=>aD bL (U.ext u.aG) ⟨gQ (n3 .i64) (by unfold nu;rw[ej bO,M]),u.aG⟩)
 .have J:l=[]:=sl.1 bO;subst J;exact⟨gQ (n3 .i64) (by unfold nu;split<;>simp_all),u.aG⟩
 refine aK fM (B.ext u.aG) (fh bO ?_);obtain⟨I,E⟩:=gx l (i:=((l.length:Int)-1).toNat) bO;refine aQ fM B bO E (λ_ Fv=>bV I.at_ lP Fv rfl rfl λ_ xk=>have u:=u.drew;aD bL (xk.ext u.aG) (aK fM (B.ext u.aG) (fh bO (aQ fM B bO E λ_ xw=>bV I.text nG xw rfl rfl λ_ V=>aD gA (V.ext u.aG) (fj iq ?_)))));have W:=sJ _ (la E);refine aO bO ?_;have G:l.getLast? = some I:=by rw[List.getLast?_eq_getElem?,<- E];congr 1;omega
 have Z:(if 0<=i then l[i.toNat]? else none)=none:=by split;exact n0 bO;rfl
 exact⟨gQ (n3 .i64) (by unfold nu;rw[Z,G]),u.aG⟩
def numOf(s:ByteArray)(a k:Nat):Int:=(((iQ s).drop a).take (k-a)).foldl (λn c=>if n<=4294967296 then 10*n+((c.toNat:Int)-48)else n) 0
theorem S0(s:ByteArray)(a:Nat):numOf s a a=0:=by unfold numOf;grind
theorem z8{s:ByteArray}{a k:Nat}{c:UInt8}(u:a<=k)(h:(iQ s)[k]?=some c):numOf s a (k+1)=if numOf s a k<=4294967296 then 10*numOf s a k+((c.toNat:Int)-48)else numOf s a k:=by
 unfold numOf
 rw[show k+1-a=(k-a)+1 from bO,tz,Jo,show a+(k-a)=k from bO,h,JN,FA]
 rfl
theorem aet{s:ByteArray}{a:Nat}:∀{k:Nat},a<=k->k<=s.size->(∀j c,a<=j->j<k->(iQ s)[j]?=some c->48<=(c.toNat:Int)/\(c.toNat:Int)<=57)->0<=numOf s a k/\numOf s a k<=42949672969:=by
 intro k
 induction k with
 | zero=>
  grind[iQ,numOf]
 | succ k B=>
  intro E G u
  by_cases e:a=k+1
  .subst e;rw[S0];omega
  .have:=B bO bO λj c h1 h2=>u j c h1 bO
   obtain⟨c,hc⟩:∃c,(iQ s)[k]?=some c:=⟨_,l0 (by rw[eX];omega)⟩
   have h2:=u k c bO bO hc
   rw[z8 bO hc]
   omega
def mR(s:ByteArray):Nat->Nat->List bT->Option (List bT×Int×Int)
 | 0,_,_=>none
 | n+1,a,out=>match (iQ s)[a]? with
  | none=>some (out,0,0)
  | some c=>
   if gD c.toNat=true then(if 16<wF sY s a-a then some ([],2,(a:Int))else(lE s (s.size+1) (wF sY s a)).bind λu=>mR s n u (out++[⟨1,s.extract a (wF sY s a),0,a⟩]))
   else if kx c.toNat=true then(if 4294967296<numOf s a (wF wG s a)then some ([],4,(a:Int))else(lE s (s.size+1) (wF wG s a)).bind λu=>mR s n u (out++[⟨2,s.extract a (wF wG s a),numOf s a (wF wG s a),a⟩]))
   else if qR s a c=0 then some ([],3,(a:Int))else(lE s (s.size+1) (a+(qR s a c).toNat)).bind λu=>mR s n u (out++[⟨3,s.extract a (a+(qR s a c).toNat),0,a⟩])
def wk(s:ByteArray):Option (List bT×Int×Int):=if 4000<s.size then some ([],2,4000)else(lE s (s.size+1) 0).bind λa=>mR s (s.size+2) a []
theorem Qu{s:ByteArray}{n a:Nat}{out:List bT}{r:List bT×Int×Int}(h:mR s n a out=some r):∃k,n=k+1:=by
 cases n with
 | zero=>cases h
 | succ k=>grind
def yw(s:ByteArray)(k a:Nat)(out:List bT)(R:List bT×Int×Int)(B:Int)(e:Nat)(n:Int):Prop:=a<e/\e<=s.size/\∃u,lE s (s.size+1) e=some u/\mR s k u (out++[⟨B,s.extract a e,n,a⟩])=some R
section
variable {s:ByteArray}{k a:Nat}{c:UInt8}{out:List bT}{R:List bT×Int×Int}
theorem UK(h:mR s (k+1) a out=some R)(u:s.size<=a):R=(out,0,0):=by
 unfold mR at h;rw[n0 (by rw[eX];exact u)]at h;grind
theorem GN(h:mR s (k+1) a out=some R)(hc:(iQ s)[a]?=some c)(u:gD c.toNat=true)(hb:16<wF sY s a-a):R=([],2,(a:Int)):=by
 unfold mR at h;grind
theorem Cw{e:Nat}{u n:Int}(h:((lE s (s.size+1) e).bind λB=>mR s k B (out++[⟨u,s.extract a e,n,a⟩]))=some R)(h1:a<e)(h2:e<=s.size):yw s k a out R u e n:=by
 cases hp:lE s (s.size+1) e with
 | none=>grind
 | some B=>grind[yw]
theorem UL(h:mR s (k+1) a out=some R)(hc:(iQ s)[a]?=some c)(B:gD c.toNat=true)(hb:¬ 16<wF sY s a-a)(u:a<wF sY s a):yw s k a out R 1 (wF sY s a) 0:=by
 unfold mR at h;rw[hc]at h;dsimp only at h;rw[ej B,ei hb]at h
 have:=q9 hc;have h2:=Qs (s:=s) (a:=a) sY
 exact Cw h u bO
theorem JY(h:mR s (k+1) a out=some R)(hc:(iQ s)[a]?=some c)(B:gD c.toNat=false)(u:kx c.toNat=true)(hb:4294967296<numOf s a (wF wG s a)):R=([],4,(a:Int)):=by
 unfold mR at h;grind
theorem ZG(h:mR s (k+1) a out=some R)(hc:(iQ s)[a]?=some c)(E:gD c.toNat=false)(B:kx c.toNat=true)(hb:¬ 4294967296<numOf s a (wF wG s a))(u:a<wF wG s a):yw s k a out R 2 (wF wG s a) (numOf s a (wF wG s a)):=by
 unfold mR at h;rw[hc]at h;dsimp only at h;rw[ei cL,ej B,ei hb]at h
 have:=q9 hc;have h2:=Qs (s:=s) (a:=a) wG
 exact Cw h u bO
theorem UM(h:mR s (k+1) a out=some R)(hc:(iQ s)[a]?=some c)(B:gD c.toNat=false)(u:kx c.toNat=false)(hb:qR s a c=0):R=([],3,(a:Int)):=by
 unfold mR at h;grind
theorem ZH(s:ByteArray)(a:Nat)(c:UInt8):qR s a c=0\/qR s a c=1\/qR s a c=2:=by
 grind[qR]
theorem S1{s:ByteArray}{a:Nat}{c:UInt8}(h:(iQ s)[a]?=some c):(a:Int)+qR s a c<=s.size:=by
 have B:=q9 h
 unfold qR
 split
 .rename_i h2
  rw[ya]at h2
  obtain⟨t,ht,hb⟩:=h2
  have:t.size=2:=by
   have u:∀t∈Dn,t.size=2:=dD
   grind
  unfold Cv at hb
  grind
 omega
theorem UN(h:mR s (k+1) a out=some R)(hc:(iQ s)[a]?=some c)(B:gD c.toNat=false)(u:kx c.toNat=false)(hb:¬ qR s a c=0):yw s k a out R 3 (a+(qR s a c).toNat) 0:=by
 unfold mR at h;rw[hc]at h;dsimp only at h;rw[ei cL,ei cL,ei hb]at h
 have h1:=ZH s a c;have h2:=S1 hc
 exact Cw h bO bO
end
theorem C130(s:ByteArray)(R:List bT×Int×Int)(w:World)(T0:s.size<=1000000)(Y:wk s=some R):CR 130 [.string s] w (λv w'=>∃o,v=.tuple #[o,hZ R.2.1,hZ R.2.2]/\kV (bH o R.1) w w'):=by
 have u:=St.start w;refine ab5 _ _ _ ?_;unfold S130;refine fj iq (cN (aC (λjF=>?_) λjF=>?_))
 .have U:([],2,4000)=R:=by unfold wk at Y;rw[ej bO]at Y;exact oq.inj Y
  subst U;exact⟨_,rfl,u.eM.fresh⟩
 have h4:s.size<=4000:=bO
 obtain⟨a0,ha0,Ot⟩:∃a0,lE s (s.size+1) 0=some a0/\mR s (s.size+2) a0 []=some R:=by
  unfold wk at Y;rw[ei bO]at Y;cases hq:lE s (s.size+1) 0 with
  | none=>rw[hq]at Y;cases Y
  | some a0=>rw[hq]at Y;exact⟨a0,rfl,Y⟩
 have ax2:=Br ha0 bO;refine bD ([]:List bT) u fM rfl rfl (dL rfl) (λs_x12 _ u=>aV afJ u (C205 s 0 (s.size+1) a0 _ bO bO ha0) λ_ he u=>?_);refine⟨λmm o x w'=>∃(a:Nat) (out:List bT),x=hZ (a:Int)/\a<=s.size/\out.length<=a/\mR s mm a out=some R/\St w aZ [bH o out] w',⟨_,a0,[],rfl,ax2.2,l6 _,Ot,u⟩,?_⟩;rintro mm zA _ _ ⟨a,out,rfl,ha,Ku,hp,u⟩ _;obtain⟨k,rfl⟩:=Qu hp;refine fj iq (aR (aC (λlS=>pop (WK _) (aM u acA λUO _ u=>aJ (x:=(⟨0,(kE #[]),0,(a:Int)⟩:bT)) u afX rfl rfl λ_ u=>⟨λto w'=>∃(kd:Int) (e:Nat) (n:Int),to=hZ (e:Int)/\yw s k a out R kd e n/\St w aZ [bY UO (kp (⟨kd,kE #[],n,(a:Int)⟩:bT)),bH zA out] w',?_,?_⟩)) λlS=>?_))
 .obtain⟨iK,jU⟩:∃xx,(iQ s)[(a:Int).toNat]?=some xx:=⟨_,l0 (by rw[eX];omega)⟩;refine jY iq bO jU ?_;have B:(iQ s)[a]?=some iK:=jU;refine aV Rx u (C206 _ _) (λ_ he u=>aY (λjG=>?_) λjG=>?_)
  .have E:=jG;refine aA lO (aT u bL (dL rfl) (rfl) λ_ u=>?_);have u:=u.enc (cs':=kp ({ (⟨0,(kE #[]),0,(a:Int)⟩:bT)with kind:=1}:bT)) rfl;have u:=u.p1.p1;refine⟨λmm x w'=>∃j:Nat,x=hZ (j:Int)/\mm=s.size-j/\a<=j/\j<=s.size/\wF sY s a=wF sY s j/\St w aZ [bY UO (kp (⟨1,kE #[],0,(a:Int)⟩:bT)),bH zA out] w',⟨_,a,rfl,rfl,pb _,ha,rfl,u⟩,?_⟩;rintro mm _ _ ⟨j,rfl,rfl,haj,hj,I,u⟩ _;refine⟨λjv w'=>jv=.bool (match (iQ s)[j]? with|some c=>sY c|none=>false)/\St w aZ [bY UO (kp (⟨1,kE #[],0,(a:Int)⟩:bT)),bH zA out] w',fj iq (aR (aC (λrC=>?_) λrC=>⟨vb (by first|(rw[show(iQ s)[j]?=some J from pf];show _=(gD J.toNat||kx J.toNat);rw[mj];rfl)|(rw[n0 (by rw[eX];omega)])),u⟩)),?_⟩
   .obtain⟨J,pf⟩:∃xx,(iQ s)[(j:Int).toNat]?=some xx:=⟨_,l0 (by rw[eX];omega)⟩;refine jY iq bO pf ?_;have hcj0:(iQ s)[j]?=some J:=pf;exact aV Rx u (C206 _ _) (λ_ he u=>aY (λmj=>⟨vb (by first|(rw[show(iQ s)[j]?=some J from pf];show _=(gD J.toNat||kx J.toNat);rw[mj];rfl)|(rw[n0 (by rw[eX];omega)])),u⟩) λmj=>jY iq bO pf (aV Ry u (C207 _ _) λ_ he u=>⟨vb (by first|(rw[show(iQ s)[j]?=some J from pf];show _=(gD J.toNat||kx J.toNat);rw[mj];rfl)|(rw[n0 (by rw[eX];omega)])),u⟩))
   rintro _ _ ⟨rfl,u⟩ _;refine aY (λZ=>?_) (λZ=>?_)
   .refine aO bO ?_
    have O:∃c,(iQ s)[j]?=some c/\sY c=true:=by
     cases hc:(iQ s)[j]? with
     | none=>rw[hc]at Z;cases Z
     | some c=>rw[hc]at Z;exact⟨c,rfl,Z⟩
    obtain⟨cj,Dp,UJ⟩:=O;have Ef:=q9 Dp;exact⟨_,bO,j+1,rfl,rfl,bO,bO,I.trans (FV Dp UJ),u⟩
   have V:wF sY s j=j:=by
    by_cases hjs:j<s.size
    .obtain⟨cj,O⟩:∃c,(iQ s)[j]?=some c:=⟨_,l0 (by rw[eX];exact hjs)⟩;rw[O]at Z;exact FW O Z
    .exact JX bO
   refine fh bO (cN (aC (λSf=>?_) λSf=>?_))
   .have u:=u.drop.drop;have U:=GN hp B E (by rw[I,V];omega);subst U;exact⟨_,rfl,u.eM.fresh⟩
   have u:=u.p1.p1
   have hgt:a<j:=by
    rcases PN a j with h|h
    .exact h
    .obtain rfl:j=a:=bO
     rw[B]at Z;have h9:sY iK=false:=Z;unfold sY at h9;rw[E]at h9;cases h9
   have M:=UL hp B E (by rw[I,V];omega) (by rw[I,V];exact hgt);rw[I,V]at M;exact⟨1,j,0,rfl,M,u⟩
  have E:=jG;refine jY iq bO jU (aV Ry u (C207 _ _) λ_ he u=>aY (λCQ=>?_) λCQ=>?_)
  .have G:=CQ;refine aA lO (aT u bL (dL rfl) (rfl) λ_ u=>?_);have u:=u.enc (cs':=kp ({ (⟨0,(kE #[]),0,(a:Int)⟩:bT)with kind:=2}:bT)) rfl;have u:=u.p1.p1;refine⟨λmm x w'=>∃j:Nat,x=hZ (j:Int)/\mm=s.size-j/\a<=j/\j<=s.size/\wF wG s a=wF wG s j/\(∀(i:Nat) (c:UInt8),a<=i->i<j->(iQ s)[i]?=some c->48<=(c.toNat:Int)/\(c.toNat:Int)<=57)/\St w aZ [bY UO (kp (⟨2,kE #[],(numOf s a j),(a:Int)⟩:bT)),bH zA out] w',⟨_,a,rfl,rfl,pb _,ha,rfl,λ_ _ h1 _=>absurd h1 bO,by rw[S0];exact u⟩,?_⟩;rintro mm _ _ ⟨j,rfl,rfl,haj,hj,I,hdg,u⟩ _
   refine⟨λjv w'=>jv=.bool (match (iQ s)[j]? with|some c=>wG c|none=>false)/\St w aZ [bY UO (kp (⟨2,kE #[],(numOf s a j),(a:Int)⟩:bT)),bH zA out] w',fj iq (aR (aC (λHv=>?_) λHv=>⟨vb (by first|(rw[show(iQ s)[j]?=some ag7 from Qv];rfl)|(rw[n0 (by rw[eX];omega)])),u⟩)),?_⟩
   .obtain⟨ag7,Qv⟩:∃xx,(iQ s)[(j:Int).toNat]?=some xx:=⟨_,l0 (by rw[eX];omega)⟩;exact jY iq bO Qv (aV Ry u (C207 _ _) λ_ he u=>⟨vb (by first|(rw[show(iQ s)[j]?=some ag7 from Qv];rfl)|(rw[n0 (by rw[eX];omega)])),u⟩)
   rintro _ _ ⟨rfl,u⟩ _;refine aY (λW=>?_) (λW=>?_)
   .have O:∃c,(iQ s)[j]?=some c/\wG c=true:=by
     cases hc:(iQ s)[j]? with
     | none=>rw[hc]at W;cases W
     | some c=>rw[hc]at W;exact⟨c,rfl,W⟩
    obtain⟨cj,Dp,UJ⟩:=O;have Ef:=q9 Dp;have hcd:=UJ;unfold wG kx at hcd;rw[decide_eq_true_eq]at hcd;have Zr:=aet haj bO hdg;refine⟨λw'=>St w aZ [bY UO (kp (⟨2,kE #[],(numOf s a (j+1)),(a:Int)⟩:bT)),bH zA out] w',aA so (aB (v:=hZ (numOf s a j)) bL u.hb rfl (gZ (aC (λxd=>?_) λxd=>?_))),?_⟩
    .refine aA so (have u:=u.drew;aB (v:=hZ (numOf s a j)) bL u.hb rfl (IV bO ?_));obtain⟨arh,ZJ⟩:∃xx,(iQ s)[(j:Int).toNat]?=some xx:=⟨_,l0 (by rw[eX];omega)⟩;refine jY iq bO ZJ ?_;obtain rfl:=oq.inj (ZJ.symm.trans (show(iQ s)[(j:Int).toNat]?=some cj from Dp));refine Zi bO (Uz avk Ld bO (aO bO (aA so (aT u bL (dL rfl) (rfl) λ_ u=>?_))));have u:=u.enc (cs':=kp ({ (⟨2,kE #[],(numOf s a j),(a:Int)⟩:bT)with n:=((10*(numOf s a j))+((arh.toNat:Int)-48))}:bT)) rfl
     have u:=u.p1.p1;rw[z8 haj Dp,ej xd];exact u
    .have u:=u.p1.p1;rw[z8 haj Dp,ei xd];exact u
    intro _ u _;refine aO bO ?_
    exact⟨_,bO,j+1,rfl,rfl,bO,bO,I.trans (FV Dp UJ),λi c h1 h2 h3=>by
     by_cases e:i=j
     .subst e;obtain rfl:=oq.inj (h3.symm.trans Dp);omega
     .exact hdg i c h1 bO h3,u⟩
   have V:wF wG s j=j:=by
    by_cases hjs:j<s.size
    .obtain⟨cj,O⟩:∃c,(iQ s)[j]?=some c:=⟨_,l0 (by rw[eX];exact hjs)⟩;rw[O]at W;exact FW O W
    .exact JX bO
   refine aA so (aB (v:=hZ (numOf s a j)) bL u.hb rfl (cN (aC (λagl=>?_) λagl=>?_)))
   .have u:=u.drop.drop;have U:=JY hp B E G (by rw[I,V];omega);subst U;exact⟨_,rfl,u.eM.fresh⟩
   have u:=u.p1.p1
   have hgt:a<j:=by
    rcases PN a j with h|h
    .exact h
    .obtain rfl:j=a:=bO
     rw[B]at W;have h9:wG iK=false:=W;unfold wG at h9;rw[G]at h9;cases h9
   have M:=ZG hp B E G (by rw[I,V];omega) (by rw[I,V];exact hgt);rw[I,V]at M;exact⟨2,j,_,rfl,M,u⟩
  have G:=CQ;have hsb:=ZH s a iK;have hsi:=S1 B;refine aA lO (aT u bL (dL rfl) (rfl) λ_ u=>have u:=u.enc (cs':=kp ({ (⟨0,(kE #[]),0,(a:Int)⟩:bT)with kind:=3}:bT)) rfl;aV am0 u (C208 s a iK _ T0 B) λ_ he u=>aO bO (aH (aC (λari=>?_) λari=>?_)))
  .have u:=u.drop.drop;have U:=UM hp B E G bO;subst U;exact⟨_,rfl,u.eM.fresh⟩
  have u:=u.p1.p1;have M:=UN hp B E G bO;exact⟨3,a+(qR s a iK).toNat,0,by congr 1;omega,M,u⟩
 .rintro _ _ ⟨kd,e,n,rfl,M,u⟩ _;have ax3:=M;obtain⟨h1e0,h2e0,_⟩:=ax3;refine Lz iq bO bO bO (aA nG (aT u gA (dL rfl) (rfl) λ_ u=>have u:=u.enc (cs':=kp ({ (⟨kd,kE #[],n,(a:Int)⟩:bT)with text:=(s.extract (a:Int).toNat (e:Int).toNat)}:bT)) rfl;aD afX u.At (bD ([(⟨kd,s.extract (a:Int).toNat (e:Int).toNat,n,(a:Int)⟩:bT)]) u fM rfl rfl (dL rfl) λajQ _ u=>?_)));have aeu:=u.dS;refine bJ u.p2 fM aeu (by simp;omega) dD (λajR _ u=>?_);have u:=u.p1.drop;obtain⟨h1e,h2e,a2,ha2,hp2⟩:=M
  have ax4:=Br ha2 h2e;exact aV afJ u (C205 s e (s.size+1) a2 _ bO bO ha2) (λ_ _ u=>have u:=u.p1.drop;⟨k,bO,a2,_,rfl,ax4.2,by simp;omega,hp2,u⟩)
 have U:=UK hp bO;subst U;exact⟨_,rfl,u.fresh⟩
structure fN where
 l:(List cA)
 to:Int
 e:Int
 at_:Int
deriving DecidableEq
structure dZ where
 l:SV
 to:Int
 e:Int
 at_:Int
instance:Flat dZ where
 agg:=true
 sz:=4
 enc e:=[.slice e.l.a e.l.n e.l.cap,hZ e.to,hZ e.e,hZ e.at_]
 val e:=.agg [.slice e.l.a e.l.n e.l.cap,hZ e.to,hZ e.e,hZ e.at_].toArray
 pos:=dD
 len _:=rfl
 one a v h:=by grind[wA]
 nD _ _:=rfl
 nX h:=by cases h
instance:Deep fN dZ where
 dr w s x:=∃(u:SV),s=(⟨u,x.to,x.e,x.at_⟩:dZ)/\DL w (j0 u) x.l
 ext h e:=by
  obtain⟨B,rfl,E⟩:=h
  exact⟨B,rfl,E.ext e⟩
def lI{w:World}{u:dZ}{x:fN}(h:ml w u x):DL w (j0 u.l) x.l:=by obtain⟨_,rfl,h⟩:=h;exact h
def re(n:Int):List Int:=if n=0 then [15]else if n=1 then [14]else if n=2 then [10,11,12,13]else if n=3 then [5,6]else [7,8,9]
def DY:List ByteArray:=[⟨#[]⟩,⟨#[]⟩,⟨#[]⟩,⟨#[45]⟩,⟨#[33]⟩,⟨#[43]⟩,⟨#[45]⟩,⟨#[42]⟩,⟨#[47]⟩,⟨#[37]⟩,⟨#[61,61]⟩,⟨#[33,61]⟩,⟨#[60]⟩,⟨#[60,61]⟩,⟨#[38,38]⟩,⟨#[124,124]⟩]
def No(k:Int):ByteArray:=(DY[k.toNat]?).getD ⟨#[]⟩
def gv(l:List bT)(i e:Int):fN:=⟨[],0,if (l.length:Int)<=i then 6 else e,nu l i⟩
abbrev arj(r:fN)(w:World):=ub λv w'=>∃u:dZ,v=j0 u/\kV (eF λw=>ml w u r) w w'
def ajS(l:List bT)(rec:Int->Int->Int->Option fN):Prop:=∀(lv:Value) (i d n:Int) (r:fN) (w:World),dA (λ_=>True) w lv l->rec i d n=some r->0<=i/\i<=l.length->0<=d/\d<=12->0<=n/\n<=5->
 Calls hH 258 [lv,hZ i,hZ d,hZ n].toArray w (arj r w)/\(n=5->Calls hH 294 [lv,hZ i,hZ d].toArray w (arj r w))
structure jl(l:List bT):Prop where
 n:l.length<=5000
 at_:∀x∈l,0<=x.at_/\x.at_<=1000000/\x.text.size<=1000000
def UP(l:List bT)(i:Int):Bool:=tU l i ⟨#[33]⟩||tU l i ⟨#[45]⟩
def px(rec:Int->Int->Int->Option fN)(l:List bT)(i d:Int):Option fN:=
 match (if (l.length:Int)<=i then none else l[i.toNat]?)with
 | none=>some (gv l i 6)
 | some t=>if ((UP l i||tU l i ⟨#[40]⟩)&&decide (d=12))=true then some (gv l i 7)
  else if UP l i=true then(rec (i+1) (d+1) 5).bind λx=>if x.l.length<=10000 then some (if x.e≠0 then x else {x with l:=[⟨if t.text=⟨#[45]⟩then 3 else 4,0,⟨#[]⟩,t.at_⟩]++x.l})else none
  else if tU l i ⟨#[40]⟩=true then(rec (i+1) (d+1) 0).bind λx=>some (if x.e≠0 then x else if tU l x.to ⟨#[41]⟩=true then {x with to:=x.to+1}else gv l x.to 5)
  else if t.kind=2 then some ⟨[⟨1,t.n,⟨#[]⟩,t.at_⟩],i+1,0,0⟩
  else if (decide (t.kind=1)&&gN t.text)=true then some ⟨[⟨2,0,t.text,t.at_⟩],i+1,0,0⟩
  else some (gv l i 5)
def FX(l:List bT)(to n:Int)(k:Nat):Int:=((re n).take k).foldl (λop f=>if tU l to (No f)=true then f else op) 0
def JZ(l:List bT)(to n:Int):Int:=FX l to n (re n).length
theorem H8{l:List bT}{to n:Int}{k:Nat}{f:Int}(h:(re n)[k]?=some f):FX l to n (k+1)=if tU l to (No f)=true then f else FX l to n k:=by
 unfold FX;rw[tz,h,JN,FA];rfl
def wm(rec:Int->Int->Int->Option fN)(l:List bT)(d n:Int):Nat->fN->Option fN
 | 0,_=>none
 | k+1,x=>if x.e≠0 then some x else if JZ l x.to n=0 then some x else match (if 0<=x.to then l[x.to.toNat]? else none)with
  | none=>none
  | some t=>match rec (x.to+1) d (n+1)with
   | none=>none
   | some y=>if y.e≠0 then some y else if x.l.length+y.l.length<=10000 then
     (if n=2 then some ⟨[⟨JZ l x.to n,0,⟨#[]⟩,t.at_⟩]++x.l++y.l,y.to,0,0⟩else wm rec l d n k ⟨[⟨JZ l x.to n,0,⟨#[]⟩,t.at_⟩]++x.l++y.l,y.to,0,0⟩)else none
def H9(l:List bT):Nat->Int->Int->Int->Option fN
 | 0,_,_,_=>none
 | k+1,i,d,n=>if n=5 then px (H9 l k) l i d else(H9 l k i d (n+1)).bind (wm (H9 l k) l d n k)
def ZK{n:Int}{k:Nat}{f:Int}(h:(re n)[k]?=some f):5<=f/\f<=15:=by
 have u:=la h
 unfold re at u
 grind
section
variable {rec:Int->Int->Int->Option fN}{l:List bT}{i d n:Int}{r x y:fN}{t:bT}{k:Nat}
theorem Qw(h:px rec l i d=some r)(u:(l.length:Int)<=i):r=gv l i 6:=by
 unfold px at h;grind
theorem Np(h:px rec l i d=some r)(u:¬ (l.length:Int)<=i)(ht:l[i.toNat]?=some t)(B:((UP l i||tU l i ⟨#[40]⟩)&&decide (d=12))=true):r=gv l i 7:=by
 unfold px at h;grind
theorem UQ(h:px rec l i d=some r)(B:¬ (l.length:Int)<=i)(ht:l[i.toNat]?=some t)(E:((UP l i||tU l i ⟨#[40]⟩)&&decide (d=12))=false)(u:UP l i=true) :
  ∃x,rec (i+1) (d+1) 5=some x/\x.l.length<=10000/\r=if x.e≠0 then x else {x with l:=[⟨if t.text=⟨#[45]⟩then 3 else 4,0,⟨#[]⟩,t.at_⟩]++x.l}:=by
 unfold px at h;rw[ei B,ht]at h;dsimp only at h;rw[ei cL,ej u]at h
 cases hr:rec (i+1) (d+1) 5 with
 | none=>grind
 | some x=>
  grind
theorem Nq(h:px rec l i d=some r)(u:¬ (l.length:Int)<=i)(ht:l[i.toNat]?=some t)(G:((UP l i||tU l i ⟨#[40]⟩)&&decide (d=12))=false)(E:UP l i=false)(B:tU l i ⟨#[40]⟩=true) :
  ∃x,rec (i+1) (d+1) 0=some x/\r=if x.e≠0 then x else if tU l x.to ⟨#[41]⟩=true then {x with to:=x.to+1}else gv l x.to 5:=by
 unfold px at h;rw[ei u,ht]at h;dsimp only at h;rw[ei cL,ei cL,ej B]at h
 cases hr:rec (i+1) (d+1) 0 with
 | none=>grind
 | some x=>grind
theorem Nr(h:px rec l i d=some r)(E:¬ (l.length:Int)<=i)(ht:l[i.toNat]?=some t)(B:((UP l i||tU l i ⟨#[40]⟩)&&decide (d=12))=false)(u:UP l i=false)(G:tU l i ⟨#[40]⟩=false) :
  r=if t.kind=2 then⟨[⟨1,t.n,⟨#[]⟩,t.at_⟩],i+1,0,0⟩else if (decide (t.kind=1)&&gN t.text)=true then⟨[⟨2,0,t.text,t.at_⟩],i+1,0,0⟩else gv l i 5:=by
 unfold px at h;grind
theorem Qx(h:wm rec l d n k x=some r):∃j,k=j+1:=by
 cases k with
 | zero=>cases h
 | succ j=>grind
theorem aev(h:wm rec l d n (k+1) x=some r)(u:x.e≠0):r=x:=by
 unfold wm at h;grind
theorem ZL(h:wm rec l d n (k+1) x=some r)(u:¬ x.e≠0)(B:JZ l x.to n=0):r=x:=by
 unfold wm at h;grind
theorem ZM(h:wm rec l d n (k+1) x=some r)(u:¬ x.e≠0)(B:¬ JZ l x.to n=0):∃t y,0<=x.to/\l[x.to.toNat]?=some t/\rec (x.to+1) d (n+1)=some y/\(y.e≠0->r=y)/\
  (¬ y.e≠0->x.l.length+y.l.length<=10000/\(n=2->r=⟨[⟨JZ l x.to n,0,⟨#[]⟩,t.at_⟩]++x.l++y.l,y.to,0,0⟩)/\(¬ n=2->wm rec l d n k ⟨[⟨JZ l x.to n,0,⟨#[]⟩,t.at_⟩]++x.l++y.l,y.to,0,0⟩=some r)):=by
 unfold wm at h;grind
theorem ag8(h:H9 l (k+1) i d 5=some r):px (H9 l k) l i d=some r:=by grind[px,H9]
theorem ark(h:H9 l (k+1) i d n=some r)(u:¬ n=5):∃x,H9 l k i d (n+1)=some x/\wm (H9 l k) l d n k x=some r:=by
 unfold H9 at h;rw[ei u]at h
 cases hx:H9 l k i d (n+1)with
 | none=>grind
 | some x=>grind
end
def wo(l:List bT)(i:Int):Option (List cA×Int×Int×Int):=if i<0 then some ([],0,1,0)else(H9 l 10000 i 0 0).bind λx=>
 if x.e≠0 then some ([],0,x.e,x.at_)else match zJ x.l,l[i.toNat]? with
  | some t,some k=>if x.l.length<=10000 then(if 12<t.depth then some ([],0,7,k.at_)else if 40<x.l.length then some ([],0,2,k.at_)else some (x.l,x.to,0,0))else none
  | _,_=>none
def Qy(n:Int):(re n).length<=4:=by
 grind[re]
def C295(n:Int)(w:World)(hn:0<=n/\n<=4):CR 295 [hZ n] w (λv w'=>kV (bH v (re n)) w w'):=by
 have u:=St.start w;refine eZ Tryz.func295 ?_;refine bD ([15]:List Int) u cS rfl rfl (dL rfl) (λW _ u=>bD ([14]:List Int) u cS rfl rfl (dL rfl) λZ _ u=>bD ([10,11,12,13]:List Int) u cS rfl rfl (dL rfl) λO8 _ u=>bD ([5,6]:List Int) u cS rfl rfl (dL rfl) λU _ u=>bD ([7,8,9]:List Int) u cS rfl rfl (dL rfl) λV _ u=>?_);obtain⟨M,rfl⟩:=u.p4.fK;obtain⟨O,rfl⟩:=u.p3.fK;obtain⟨I,rfl⟩:=u.p2.fK;obtain⟨G,rfl⟩:=u.p1.fK;obtain⟨J,rfl⟩:=u.fK;refine bD ([M,O,I,G,J]) u Hg rfl rfl (dL rfl) (λY _ u=>?_)
 have u:=(((((((((((u.acF (α:=Int)).p6).p1).EA).p5).p1).EA).p4).p1).EA).p3).p1;have u:=u.EA.p2.p1.EA;obtain rfl|rfl|rfl|rfl|rfl:n=0\/n=1\/n=2\/n=3\/n=4:=bO
 .have B:=u.AN;exact dR u.p1 Hg dD ee (λ_ E=>gP u.p1 eh E (show _=some M from rfl) (have u:=u.split;u.fresh))
 .have B:=u.AN;exact dR u.p1 Hg dD ee (λ_ E=>gP u.p1 eh E (show _=some O from rfl) (have u:=u.split.drop.split;u.fresh))
 .have B:=u.AN;exact dR u.p1 Hg dD ee (λ_ E=>gP u.p1 eh E (show _=some I from rfl) (have u:=u.split.drop.split.drop.split;u.fresh))
 .have B:=u.AN;exact dR u.p1 Hg dD ee (λ_ E=>gP u.p1 eh E (show _=some G from rfl) (have u:=u.split.drop.split.drop.split.drop.split;u.fresh))
 have B:=u.AN;exact dR u.p1 Hg dD ee (λ_ E=>gP u.p1 eh E (show _=some J from rfl) (have u:=u.split.drop.split.drop.split.drop.split.drop.split;u.fresh))
def C296(k:Int)(w:World)(J:0<=k/\k<=15):CR 296 [hZ k] w (λv w'=>v=.string (No k)/\Ext w w'):=by
 have u:=St.start w;refine eZ Tryz.func296 ?_;refine bD DY u iD rfl rfl (dL rfl) (λI _ u=>?_);have M:DY.length=16:=rfl;obtain⟨G,E⟩:=gx DY (i:=k.toNat) bO;refine dR u iD bO bO (λ_ B=>gP u gA B E ?_);refine⟨?_,u.drop.aG⟩;unfold No;rw[E];rfl
def C320(lv:Value)(l:List bT)(i e:Int)(w:World)(B:dA (λ_=>True) w lv l)(E:jl l):CR 320 [lv,hZ i,hZ e] w (λv w'=>∃sh:dZ,v=j0 sh/\kV (eF λw=>ml w sh (gv l i e)) w w'):=by
 have U:=E.n;have G:l.length<=1000000:=bO
 have J:=E.at_;have u:=St.start w;refine aco _ _ _ _ _ ?_;unfold S320;refine aM u tL (λV O u=>have u:=u.enc (cs':=kp (⟨bW,0,0,0⟩:dZ)) rfl;⟨λI w'=>I=hZ (if (l.length:Int)<=i then 6 else e)/\O=w',aK fM (B.ext u.aG) (cR (aC (λ_=>⟨by rw[ej bO],rfl⟩) λ_=>⟨by rw[ei bO],rfl⟩)),?_⟩);rintro _ _ ⟨rfl,M⟩ _;subst M;exact aV G7 u (C214 _ l i _ (B.ext u.aG) G J) (λ_ _ u=>pop (O0 _ _) (aJ (x:=(⟨bW,0,(if (l.length:Int)<=i then 6 else e),(nu l i)⟩:dZ)) u fY rfl rfl λ_ u=>aD fY u.At (have u:=u.fr (Φ:=(λw=>ml w (⟨bW,0,(if (l.length:Int)<=i then 6 else e),(nu l i)⟩:dZ) (⟨[],0,(if (l.length:Int)<=i then 6 else e),(nu l i)⟩:fN))) (λ_=>⟨_,rfl,DL.nil _⟩);have u:=u.p1.drop;⟨_,rfl,u.fresh⟩)))
def C294(l:List bT)(rec:Int->Int->Int->Option fN)(lv:Value)(i d:Int)(r:fN)(w:World)(G:dA (λ_=>True) w lv l)(Y:jl l)(HR:ajS l rec)(h0:0<=i/\i<=l.length)(hd:0<=d/\d<=12)(hr:px rec l i d=some r):CR 294 [lv,hZ i,hZ d] w (λv w'=>∃sh:dZ,v=j0 sh/\kV (eF λw=>ml w sh r) w w'):=by
 have DP:=Y.n;have hn:l.length<=1000000:=bO
 have sJ:=Y.at_;have u:=St.start w;refine acj _ _ _ _ _ ?_;unfold S294;refine aM u tL (λQi _ u=>have u:=u.enc (cs':=kp (⟨bW,0,0,0⟩:dZ)) rfl;aK fM (G.ext u.aG) (cR (aC (λeu=>?_) λeu=>?_)))
 .refine dM RF (C320 _ l i 6 _ (G.ext u.aG) Y) ?_;rintro _ _ ⟨ajV,rfl,O⟩;have u:=u.made O;obtain⟨Bs,Qz,_⟩:=u.eF;subst Qz;refine aJ (x:=(⟨Bs,(gv l i 6).to,(gv l i 6).e,(gv l i 6).at_⟩:dZ)) u.p1 fY rfl rfl (λ_ u=>aD fY u.At ?_);have I:r=(⟨(gv l i 6).l,(gv l i 6).to,(gv l i 6).e,(gv l i 6).at_⟩:fN):=Qw hr bO;rw[I];have u:=u.p1.dN (Ψ:=(λw=>ml w (⟨Bs,(gv l i 6).to,(gv l i 6).e,(gv l i 6).at_⟩:dZ) (⟨(gv l i 6).l,(gv l i 6).to,(gv l i 6).e,(gv l i 6).at_⟩:fN))) (λ_ h=>⟨_,rfl,lI h⟩)
  have u:=u.p1.drop;exact⟨_,rfl,u.fresh⟩
 obtain⟨t,ht⟩:=gx l (i:=i.toNat) bO;have hta:=sJ t (la ht);refine⟨λV w'=>V=.bool (UP l i)/\St w aZ [bY Qi (kp (⟨bW,0,0,0⟩:dZ))] w',aV vX u (C209 _ l i (kE #[33]) _ (G.ext u.aG) hn) (λ_ _ u=>aY (λiP=>⟨vb (by unfold UP;rw[iP];rfl),u⟩) λiP=>aV vX u (C209 _ l i (kE #[45]) _ (G.ext u.aG) hn) λ_ _ u=>⟨vb (by unfold UP;rw[iP];rfl),u⟩),?_⟩;rintro _ _ ⟨rfl,u⟩ _;refine aV vX u (C209 _ l i (kE #[40]) _ (G.ext u.aG) hn) (λ_ he u=>⟨λV w'=>V=.bool ((UP l i||tU l i (kE #[40]))&&decide (d=12))/\St w aZ [bY Qi (kp (⟨bW,0,0,0⟩:dZ))] w',aY (λE=>aH ⟨vb (by first|(rw[E];simp;done)|(rw[E,M];simp;done)|(rw[E];rfl)|(rw[E,M];rfl)),u⟩) (λE=>aY (λM=>aH ⟨vb (by first|(rw[E];simp;done)|(rw[E,M];simp;done)|(rw[E];rfl)|(rw[E,M];rfl)),u⟩) λM=>⟨vb (by first|(rw[E];simp;done)|(rw[E,M];simp;done)|(rw[E];rfl)|(rw[E,M];rfl)),u⟩),?_⟩)
 rintro _ _ ⟨rfl,u⟩ _;refine aY (λU=>?_) (λU=>aY (λE=>?_) λE=>aY (λM=>?_) λM=>?_)
 .refine dM RF (C320 _ l i 7 _ (G.ext u.aG) Y) ?_;rintro _ _ ⟨ax6,rfl,O⟩;have u:=u.made O;obtain⟨S6,ajW,_⟩:=u.eF;subst ajW;refine aJ (x:=(⟨S6,(gv l i 7).to,(gv l i 7).e,(gv l i 7).at_⟩:dZ)) u.p1 fY rfl rfl (λ_ u=>aD fY u.At ?_);have I:r=(⟨(gv l i 7).l,(gv l i 7).to,(gv l i 7).e,(gv l i 7).at_⟩:fN):=Np hr bO ht U;rw[I];have u:=u.p1.dN (Ψ:=(λw=>ml w (⟨S6,(gv l i 7).to,(gv l i 7).e,(gv l i 7).at_⟩:dZ) (⟨(gv l i 7).l,(gv l i 7).to,(gv l i 7).e,(gv l i 7).at_⟩:fN))) (λ_ h=>⟨_,rfl,lI h⟩)
  have u:=u.p1.drop;exact⟨_,rfl,u.fresh⟩
 .refine aO bO (aO bO ?_);have ax7:¬ d=12:=λh=>by rw[E,ew h]at U;cases U
  obtain⟨B,W,hxl,J⟩:=UQ hr bO ht U E;refine dM afT ((HR _ (i+1) (d+1) 5 B _ (G.ext u.aG) W bO bO bO).2 rfl) ?_;rintro _ _ ⟨ax8,rfl,O⟩;have u:=u.made O;obtain⟨DZ,ajX,_⟩:=u.eF;subst ajX;refine aM u tL (λB6 _ u=>have u:=u.enc (cs':=kp (⟨bW,0,0,0⟩:dZ)) rfl;aJ (x:=(⟨DZ,B.to,B.e,B.at_⟩:dZ)) u fY rfl rfl λw13 u=>aA uM (aB (v:=hZ B.e) jP u.hb rfl (bX (aC (λxh=>?_) λxh=>⟨λV w'=>V=hZ (if t.text=kE #[45]then 3 else 4)/\w13=w',aQ fM (G.ext u.aG) bO ht (λ_ AW=>bV t.text nG AW rfl rfl λ_ Zg=>aD gA Zg (jK (aC (λHv=>⟨by rw[ej Hv],rfl⟩) λHv=>⟨by rw[ei Hv],rfl⟩))),?_⟩))))
  .refine aD fY u.At (aJ (x:=(⟨DZ,B.to,B.e,B.at_⟩:dZ)) u.p2 fY rfl rfl λ_ u=>aD fY u.At ?_);have I:r=(⟨B.l,B.to,B.e,B.at_⟩:fN):=J.trans (ej xh);rw[I];have u:=u.p2.dN (Ψ:=(λw=>ml w (⟨DZ,B.to,B.e,B.at_⟩:dZ) (⟨B.l,B.to,B.e,B.at_⟩:fN))) (λ_ h=>⟨_,rfl,lI h⟩);have u:=u.p1.drop.p1.drop;exact⟨_,rfl,u.fresh⟩
  rintro _ _ ⟨rfl,hw⟩ _;subst hw;obtain⟨op,ag9⟩:∃op,op=(if t.text=kE #[45]then(3:Int)else 4):=⟨_,rfl⟩;rw[<- ag9];refine aQ fM (G.ext u.aG) bO ht (λ_ Fx=>bV t.at_ lP Fx rfl rfl λ_ LP=>aD bL LP (pop (Eu _ _) (bD ([(⟨op,0,(kE #[]),t.at_⟩:cA)]) u gY rfl rfl (dL rfl) λs_x66 _ u=>aA sq (aB (v:=j0 (DZ:SV)) jz u.p1.hb rfl ?_))));have ajY:=(DL.flat (lI u.p2.eF));refine bJ u gY ajY (by simp;omega) dD (λagW _ u=>aA sq ?_);obtain⟨QA,rfl⟩:=u.fK;refine aT u.p1 jz (dL rfl) (rfl) (λ_ u=>have u:=u.enc (cs':=kp (⟨QA,B.to,B.e,B.at_⟩:dZ)) rfl;aD fY u.At (aJ (x:=(⟨QA,B.to,B.e,B.at_⟩:dZ)) u.p3 fY rfl rfl λ_ u=>aD fY u.At ?_))
  have I:r=(⟨([(⟨op,0,(kE #[]),t.at_⟩:cA)]++B.l),B.to,B.e,B.at_⟩:fN):=by rw[J,ei xh,<- ag9]
  rw[I];have u:=u.p2.freeze.dN (Ψ:=(λw=>ml w (⟨QA,B.to,B.e,B.at_⟩:dZ) (⟨([(⟨op,0,(kE #[]),t.at_⟩:cA)]++B.l),B.to,B.e,B.at_⟩:fN))) (λ_ h=>⟨_,rfl,DL.j4 h⟩);have u:=u.p1.drop.p1.drop.p1.drop;exact⟨_,rfl,u.fresh⟩
 .refine aO bO (aO bO ?_);have ax7:¬ d=12:=λh=>by rw[E,M,ew h]at U;cases U
  obtain⟨B,W,J⟩:=Nq hr bO ht U E M;refine dM RC ((HR _ (i+1) (d+1) 0 B _ (G.ext u.aG) W bO bO bO).1) ?_;rintro _ _ ⟨ax9,rfl,O⟩;have u:=u.made O;obtain⟨Z,ajZ,_⟩:=u.eF;subst ajZ;refine aM u tL (λW0 _ u=>have u:=u.enc (cs':=kp (⟨bW,0,0,0⟩:dZ)) rfl;aJ (x:=(⟨Z,B.to,B.e,B.at_⟩:dZ)) u fY rfl rfl λ_ u=>aA uM (aB (v:=hZ B.e) jP u.hb rfl (bX (aC (λS7=>?_) λS7=>aA o0 (aB (v:=hZ B.to) bL u.hb rfl (aV vX u (C209 _ l B.to (kE #[41]) _ (G.ext u.aG) hn) λ_ he u=>bR (aY (λS8=>?_) λS8=>?_)))))))
  .refine aD fY u.At (aJ (x:=(⟨Z,B.to,B.e,B.at_⟩:dZ)) u.p2 fY rfl rfl λ_ u=>aD fY u.At ?_);have I:r=(⟨B.l,B.to,B.e,B.at_⟩:fN):=J.trans (ej S7);rw[I];have u:=u.p2.dN (Ψ:=(λw=>ml w (⟨Z,B.to,B.e,B.at_⟩:dZ) (⟨B.l,B.to,B.e,B.at_⟩:fN))) (λ_ h=>⟨_,rfl,lI h⟩);have u:=u.p1.drop.p1.drop;exact⟨_,rfl,u.fresh⟩
  .refine aA o0 (aB (v:=hZ B.to) bL u.hb rfl (dM RF (C320 _ l B.to 5 _ (G.ext u.aG) Y) ?_));rintro _ _ ⟨aya,rfl,O⟩;have u:=u.made O;obtain⟨S9,aj0,_⟩:=u.eF;subst aj0;refine aJ (x:=(⟨S9,(gv l B.to 5).to,(gv l B.to 5).e,(gv l B.to 5).at_⟩:dZ)) u.p3 fY rfl rfl (λ_ u=>aD fY u.At ?_);have I:r=(⟨(gv l B.to 5).l,(gv l B.to 5).to,(gv l B.to 5).e,(gv l B.to 5).at_⟩:fN):=J.trans ((ei S7).trans (ei (by simpa using S8)));rw[I];have u:=u.p1.dN (Ψ:=(λw=>ml w (⟨S9,(gv l B.to 5).to,(gv l B.to 5).e,(gv l B.to 5).at_⟩:dZ) (⟨(gv l B.to 5).l,(gv l B.to 5).to,(gv l B.to 5).e,(gv l B.to 5).at_⟩:fN))) (λ_ h=>⟨_,rfl,lI h⟩)
   have u:=u.p1.drop.p1.drop.p1.drop;exact⟨_,rfl,u.fresh⟩
  refine aA o0 (aB (v:=hZ B.to) bL u.hb rfl ?_);have tm:=sZ (l:=l) (i:=B.to) (t:=kE #[41]) (by simpa using S8);refine aO bO (aA o0 (aT u bL (dL rfl) (rfl) λ_ u=>have u:=u.enc (cs':=kp (⟨Z,(B.to+1),B.e,B.at_⟩:dZ)) rfl;aD fY u.At (aJ (x:=(⟨Z,(B.to+1),B.e,B.at_⟩:dZ)) u.p2 fY rfl rfl λ_ u=>aD fY u.At ?_)));have I:r=(⟨B.l,(B.to+1),B.e,B.at_⟩:fN):=J.trans ((ei S7).trans (ej (by simpa using S8)));rw[I];have u:=u.p2.dN (Ψ:=(λw=>ml w (⟨Z,(B.to+1),B.e,B.at_⟩:dZ) (⟨B.l,(B.to+1),B.e,B.at_⟩:fN))) (λ_ h=>⟨_,rfl,lI h⟩)
  have u:=u.p1.drop.p1.drop;exact⟨_,rfl,u.fresh⟩
 have X3:=Nr hr bO ht U E M;refine aQ fM (G.ext u.aG) bO ht (λ_ aj1=>bV t.kind lO aj1 rfl rfl λ_ aj2=>aD bL aj2 (aH (aC (λJ0=>?_) λJ0=>⟨λV w'=>V=.bool (decide (t.kind=1)&&gN t.text)/\St w aZ [bY Qi (kp (⟨bW,0,0,0⟩:dZ))] w',aQ fM (G.ext u.aG) bO ht (λ_ aj3=>bV t.kind lO aj3 rfl rfl λ_ aj4=>aD bL aj4 (aH (aC (λzS=>aQ fM (G.ext u.aG) bO ht λ_ aj5=>bV t.text nG aj5 rfl rfl λ_ aj6=>aD gA aj6 (aV uE u (C211 _ _ bO) λ_ _ u=>⟨vb (by rw[ew zS];rfl),u⟩)) λzS=>⟨vb (by rw[fP zS];rfl),u⟩))),?_⟩)))
 .refine aQ fM (G.ext u.aG) bO ht (λ_ aj7=>bV t.n so aj7 rfl rfl λ_ aj8=>have u:=u.drew;aD bL aj8 (aQ fM (G.ext u.aG) bO ht λ_ aj9=>bV t.at_ lP aj9 rfl rfl λ_ Pw=>aD bL Pw (pop (Ja _ _ _) (aO bO (bD ([(⟨1,t.n,(kE #[]),t.at_⟩:cA)]) u gY rfl rfl (dL rfl) λayb _ u=>?_)))));obtain⟨Ta,rfl⟩:=u.fK;refine pop (zC _ _ _ _) (aJ (x:=(⟨Ta,(i+1),0,0⟩:dZ)) u.p1 fY rfl rfl λ_ u=>aD fY u.At ?_);have I:r=(⟨[(⟨1,t.n,(kE #[]),t.at_⟩:cA)],(i+1),0,0⟩:fN):=X3.trans (ej J0)
  rw[I];have u:=u.p1.freeze.dN (Ψ:=(λw=>ml w (⟨Ta,(i+1),0,0⟩:dZ) (⟨[(⟨1,t.n,(kE #[]),t.at_⟩:cA)],(i+1),0,0⟩:fN))) (λ_ h=>⟨_,rfl,DL.j4 h⟩);have u:=u.p1.drop;exact⟨_,rfl,u.fresh⟩
 rintro _ _ ⟨rfl,u⟩ _;refine aY (λQB=>?_) (λQB=>?_)
 .refine aQ fM (G.ext u.aG) bO ht (λ_ aka=>bV t.text nG aka rfl rfl λ_ akb=>have u:=u.drew;aD gA akb (aQ fM (G.ext u.aG) bO ht λ_ akc=>bV t.at_ lP akc rfl rfl λ_ Px=>aD bL Px (pop (Jb _ _ _) (aO bO (bD ([(⟨2,0,t.text,t.at_⟩:cA)]) u gY rfl rfl (dL rfl) λayc _ u=>?_)))));obtain⟨Tb,rfl⟩:=u.fK;refine pop (zC _ _ _ _) (aJ (x:=(⟨Tb,(i+1),0,0⟩:dZ)) u.p1 fY rfl rfl λ_ u=>aD fY u.At ?_);have I:r=(⟨[(⟨2,0,t.text,t.at_⟩:cA)],(i+1),0,0⟩:fN):=X3.trans ((ei J0).trans (ej QB))
  rw[I];have u:=u.p1.freeze.dN (Ψ:=(λw=>ml w (⟨Tb,(i+1),0,0⟩:dZ) (⟨[(⟨2,0,t.text,t.at_⟩:cA)],(i+1),0,0⟩:fN))) (λ_ h=>⟨_,rfl,DL.j4 h⟩);have u:=u.p1.drop;exact⟨_,rfl,u.fresh⟩
 refine dM RF (C320 _ l i 5 _ (G.ext u.aG) Y) ?_;rintro _ _ ⟨atx,rfl,O⟩;have u:=u.made O;obtain⟨Nt,aex,_⟩:=u.eF;subst aex;refine aJ (x:=(⟨Nt,(gv l i 5).to,(gv l i 5).e,(gv l i 5).at_⟩:dZ)) u.p1 fY rfl rfl (λ_ u=>aD fY u.At ?_);have I:r=(⟨(gv l i 5).l,(gv l i 5).to,(gv l i 5).e,(gv l i 5).at_⟩:fN):=X3.trans ((ei J0).trans (ei (by simpa using QB)));rw[I];have u:=u.p1.dN (Ψ:=(λw=>ml w (⟨Nt,(gv l i 5).to,(gv l i 5).e,(gv l i 5).at_⟩:dZ) (⟨(gv l i 5).l,(gv l i 5).to,(gv l i 5).e,(gv l i 5).at_⟩:fN))) (λ_ h=>⟨_,rfl,lI h⟩)
 have u:=u.p1.drop;exact⟨_,rfl,u.fresh⟩
end Go.Proofs.YtpdlpabnlkofmaaGreatDoor

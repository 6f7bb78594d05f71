/-
  Part 5.
-/
import Derived.Test.YtpdlpabnlkofmaaGreatDoorR3x4
set_option maxHeartbeats 8000000
set_option linter.all false
set_option maxRecDepth 100000
open Go.Fw.Flat renaming val->jr,enc->kp,sz->nk,len->AQ
open ByteArray renaming mk->j0
open List renaming getElem?_eq_some_iff->kE,mem_of_getElem?->kO,take_of_length_le->la,getElem?_eq_getElem->lU,length_append->l0,length_take->l9,length_map->mW,length_singleton->nh,getElem?_eq_none->n0,append_assoc->n4,getD_eq_getElem?_getD->oi,replicate->oz,mem_map->o1,mem_cons_self->o4,length_cons->o5,getElem?_map->o6,mem_cons_of_mem->qa,append_nil->qb,take_append_drop->qT,length_drop->sJ,mem_cons->s4,range->tg,drop_eq_nil_of_le->u6,length_eq_zero_iff->vq,map_append->vG,take_add_one->v7,length_replicate->yz,filter_append->Bt,getElem?_cons_succ->Dp,eraseIdx_eq_take_drop_succ->Hm,range_succ->Ju,getElem?_range->Jv,getElem?_take->KF,flatMap_append->MA,flatMap_cons->P5,mem_flatMap->Qa,length_eraseIdx_of_lt->Tw,map_nil->aa7
open Nat renaming zero_le->l2,le_refl->sl,le_trans->vJ,le_of_ble_eq_true->Fq,min_eq_left->GF,lt_succ_self->Qg,mul_pos->ab9
open Option renaming bind_some->mv,some->ob
open Go.Instr renaming build->mE,sliceAt->oa,sliceBounds->wN,box->BF
open Go.Value renaming int->n3,slice->Be
open Go.Fw.Deep renaming dr->n5
open Int renaming toNat_natCast->tx
open Decidable renaming not_not->A0
open Bool renaming true_and->Et,not_false->P0
namespace Go.Proofs.YtpdlpabnlkofmaaGreatDoor
open Go.Fw
def ru(l:List bH)(i:Int):Bool:=decide (0<=i/\i<l.length)&&(match l[i.toNat]? with|some x=>(l.take i.toNat).all (jU x)|none=>false)
def py(l:List bH):List Int:=((tg l.length).map fun (k:Nat)=>(k:Int)).filter (ru l)
theorem lR{l:List bH}{i:Int}(h:i<0\/(l.length:Int)<=i):ru l i=false:=by
 grind[ru]
theorem S9{l:List bH}{i:Int}{x:bH}(u:0<=i)(h1:i<l.length)(B:l[i.toNat]?=some x):ru l i = !(l.take i.toNat).any λy=>!jU x y:=by
 grind[ru,jU]
def sG(l:List bH)(k:Nat):List Int:=((tg k).map fun (k:Nat)=>(k:Int)).filter (ru l)
def HZ(l:List bH)(k:Nat):(sG l k).length<=k:=by
 grind[sG]
theorem FY{l:List bH}{k:Nat}(h:ru l k=true):sG l (k+1)=sG l k++[(k:Int)]:=by
 unfold sG;rw[Ju,vG,Bt];simp[h]
theorem H0{l:List bH}{k:Nat}(h:ru l k=false):sG l (k+1)=sG l k:=by
 unfold sG;rw[Ju,vG,Bt];simp[h]
theorem FZ(l:List bH){k:Nat}(h:k=l.length):sG l k=py l:=by subst h;rfl
def sH(w:World)(p:Nat)(room:Int)(l:List bH):Prop:=∃u,Cell w p 0 (ir room)/\Cell w p 1 u/\cZ (λ_=>True) w u l
def iR(p:Nat)(room:Int)(l:List bH):HP:=oO λu=>sep (bX p [ir room,u]) (bF u l)
theorem sH.ext{w w':World}{p:Nat}{room:Int}{l:List bH}(h:sH w p room l)(e:Ext w w'):sH w' p room l:=by
 obtain⟨u,h1,h2,h3⟩:=h;exact⟨u,h1.ext e,h2.ext e,h3.ext e⟩
def iR.rd{w:World}{F:Nat->Prop}{p:Nat}{room:Int}{l:List bH}(h:(iR p room l).p w F):sH w p room l:=by
 obtain⟨u,B,E,h1,h2,_⟩:=h
 exact⟨u,h1.1.cell rfl,h1.1.cell rfl,(bF.rd h2).mono λ_ _=>trivial⟩
def C297(M fv:Value)(xs:List bH)(g:bH->Bool)(w:World)(J:cZ (λ_=>True) w M xs)(O:wD w fv g)(hn:xs.length<=1073741824):CR 297 [M,fv] w (λv w'=>v=ir (sg g xs)/\Ext w w'):=by
 obtain⟨g0,first,cap,rfl,Z,Y⟩:=O;have u:=St.start w;refine fb Tryz.func297 ?_;refine aI fT (J.ext u.aF) ?_;refine⟨λm x I=>∃k:Nat,x=ir (k:Int)/\m=xs.length-k/\k<=xs.length/\(∀y∈xs.take k,g y=false)/\St w aX [] I,⟨_,0,rfl,rfl,l2 _,ee,u⟩,?_⟩;rintro m _ I ⟨k,rfl,rfl,hk,B,u⟩ _;refine aN (aC (λjA=>?_) λ_=>⟨gL (n3 .i64) (jb (by rw[la bL]at B;exact B)).symm,u.aF⟩);obtain⟨W,E⟩:=gx xs (i:=(k:Int).toNat) bL;refine aK fT (J.ext u.aF) bL E (λ_ U=>aE ij U (gS Z (Y W I u.aF) ?_))
 rintro _ _ ⟨rfl,V⟩;have u:=u.ext V;exact aW (λG=>⟨gL (n3 .i64) (l6 B E G).symm,u.aF⟩) (λG=>aJ bL ⟨xs.length-(k+1),bL,k+1,rfl,rfl,bL,dY B E G,u⟩)
def C261(B fv:Value)(xs:List bH)(g:bH->Bool)(w:World)(E:cZ (λ_=>True) w B xs)(G:wD w fv g)(I:xs.length<=1073741824):CR 261 [B,fv] w (λv w'=>v=.bool (xs.any g)/\Ext w w'):=by
 have u:=St.start w;refine fb Tryz.func261 ?_;exact aV aor u (C297 _ _ _ _ _ (E.ext u.aF) (G.ext u.aF) bL) (λ_ _ u=>cO ⟨vb (kN _ _),u.aF⟩)
def C259(x y:bH)(p b2 b3:Nat)(i:Int)(room:Int)(l:List bH)(w:World)(h2:Cell w b2 0 (.pointer (some ⟨p,0,none⟩)))(h3:Cell w b3 0 (ir i))(hb:sH w p room l)(J:0<=i)(B:l[i.toNat]?=some x):CR 259 [jr y,.pointer (some ⟨b2,0,none⟩),.pointer (some ⟨b3,0,none⟩)] w (λv w'=>v=.bool (!jU x y)/\Ext w w'):=by
 obtain⟨U,O,E,I⟩:=hb;have M:=(kE.1 B).1;have u:=St.start w;refine pj Tryz.func259 (pl:=awk) ?_;exact cP u (λ_ _ u=>have u:=u.drew;bE yG (h2.ext u.aF) (aD (aA kK (bE iK (E.ext u.aF) (bE bO (h3.ext u.aF) (aK fT (I.ext u.aF) J B λ_ G=>aE ij G (aE ij u.At (aV aoe u (C260 x y _) λ_ _ u=>bN ⟨rfl,u.aF⟩))))))))
def C216(p:Nat)(i:Int)(room:Int)(l:List bH)(w:World)(hb:sH w p room l)(hn:l.length<=1073741824):CR 216 [.pointer (some ⟨p,0,none⟩),ir i] w (λv w'=>v=.bool (ru l i)/\Ext w w'):=by
 have V:=hb;obtain⟨sv,ye,J,M⟩:=hb;have u:=St.start w;refine pj Tryz.func216 (pl:=awd) ?_;refine nx u rfl (λE O u=>nx u rfl λB _ u=>?_);refine⟨_,?_,λ_ _ h=>h⟩;have u:=u.drew;refine aB bO u.hb rfl (aN (aC (λZ=>?_) λZ=>?_))
 .intro Y;exact gO ⟨vb (lR bL).symm,u.aF⟩
 refine aB bO u.hb rfl (aB yG u.p1.hb rfl (aD (aA kK (bE iK (J.ext u.aF) (aI fT (M.ext u.aF) (cO ?_))))));intro Y;refine aC (λ_=>⟨vb (lR bL).symm,u.aF⟩) (λeb=>have u:=u.drew;aB yG u.p1.hb rfl (aD (aA kK (bE iK (J.ext u.aF) (aB bO u.hb rfl (uB fT (M.ext u.aF) bL bL λao7 W=>?_))))));obtain⟨x,U⟩:=gx l (i:=i.toNat) bL
 have I:wD _ (.func (.func 259) [].toArray [.pointer (some ⟨E,0,none⟩),.pointer (some ⟨B,0,none⟩)].toArray) (λy=>!jU x y):=
  ⟨259,[],_,rfl,aod,λy O G=>C259 x y p E B i room l O ((u.p1.hb.cell rfl).ext G) ((u.hb.cell rfl).ext G) ((V.ext u.aF).ext G) bL U⟩
 exact aV aof u (C261 _ _ _ _ _ W I (by rw[l9];omega)) (λ_ _ u=>bN ⟨vb (S9 bL bL U).symm,u.aF⟩)
def C215(p:Nat)(room:Int)(l:List bH)(w:World)(hb:sH w p room l):CR 215 [.pointer (some ⟨p,0,none⟩)] w (λv w'=>v=.bool (decide (room<=l.length))/\Ext w w'):=by
 obtain⟨I,B,E,G⟩:=hb;have u:=St.start w;refine pj Tryz.func215 (pl:=awc) ?_;exact aD (aA kK (have u:=u.drew;bE iK (E.ext u.aF) (aI fT (G.ext u.aF) (aD (aA LA (bE bO (B.ext u.aF) (cO ⟨rfl,u.aF⟩)))))))
def C139(p:Nat)(room:Int)(l:List bH)(w:World)(hb:sH w p room l)(hn:l.length<=1048576):CR 139 [.pointer (some ⟨p,0,none⟩)] w (λv w'=>lf (bF v (py l)) w w'):=by
 have M:=hb;obtain⟨sv,ye,I,O⟩:=hb;have u:=St.start w;refine fb Tryz.func139 ?_;refine aD (aA kK (bE iK (I.ext u.aF) (aI fT (O.ext u.aF) ?_)));refine⟨λm o x E=>∃k:Nat,x=ir (k:Int)/\m=l.length-k/\k<=l.length/\St w aX [bF o (sG l k)] E,⟨_,0,rfl,rfl,l2 _,u.eU⟩,?_⟩;rintro m o _ E ⟨k,rfl,rfl,W,u⟩ _;have Z:=HZ l k;refine aN (aC (λG=>⟨_,aV agv u (C216 _ _ _ _ _ (M.ext u.aF) bL) (λ_ V u=>aW (λB=>?_) λB=>?_),λ_ _ h=>h⟩) λG=>?_)
 .refine bD ([(k:Int)]:List Int) u cQ rfl rfl (dQ rfl) (λY _ u=>?_);have J:=u.dS;refine bJ u.p1 cQ J (by simp<;>omega) dy (λYv _ u=>?_);have u:=u.p1.drop;intro U;exact aJ bL ⟨l.length-(k+1),bL,k+1,rfl,rfl,bL,by rw[FY B];exact u⟩
 .intro U;exact aJ bL ⟨l.length-(k+1),bL,k+1,rfl,rfl,bL,by rw[H0 B];exact u⟩
 rw[FZ l bL]at u;exact u.fresh
def M4(room:Int)(l:List bH)(x:bH):Int:=if right x=true then(if room<=l.length then 2 else 0)else 1
def sI(room:Int)(l:List bH)(x:bH):List bH:=if right x=true/\¬ room<=l.length then l++[x]else l
def dF(l:List bH)(i:Int):bH:=if ru l i=true then(l[i.toNat]?).getD ⟨0,0,0,0⟩else⟨0,0,0,0⟩
def xF(l:List bH)(i:Int):Int:=if 0<=i/\i<l.length then(if ru l i=true then 0 else 13)else 1
def jL(l:List bH)(i:Int):List bH:=if ru l i=true then l.eraseIdx i.toNat else l
theorem aeJ{l:List bH}{i:Int}(h:ru l i=true):0<=i/\i<l.length:=by
 unfold ru at h;grind
def sH.mk'{w:World}{p:Nat}{room:Int}{u:Value}{l:List bH}(h1:pk w p [ir room,u])(h2:cZ (λ_=>True) w u l):sH w p room l:=
 ⟨u,h1.cell rfl,h1.cell rfl,h2⟩
def iR.shut{w0 w:World}{A:Nat->Prop}{R:List HP}{p:Nat}{room:Int}{u:Value}{l:List bH}(B:St w0 A (bX p [ir room,u]::bF u l::R) w):St w0 A (iR p room l::R) w:=
 St.dT (H:=λu=>sep (bX p [ir room,u]) (bF u l)) u (St.join B)
def Bh{w0 w:World}{A:Nat->Prop}{R:List HP}{p:Nat}{room:Int}{l:List bH}(u:St w0 A (iR p room l::R) w):sH w p room l:=by
 obtain⟨F,h,_⟩:=u.head;exact iR.rd h
def C224(v:Value)(i:Int)(xs:List bH)(F:Nat->Prop)(w:World)(V:(bF v xs).p w F)(h0:0<=i)(hi:i<xs.length)(hn:xs.length<=1073741824) :
  CR 224 [v,ir i,ir (i+1)] w (λv' w'=>True/\mT F (bF v' (xs.eraseIdx i.toNat)) w w'):=by
 obtain⟨i,rfl⟩:=Int.eq_ofNat_of_zero_le h0;replace hi:i<xs.length:=bL
 rw[tx];have V5:=bF.rd V;obtain⟨b,cap,rest,rfl,hb,u,U⟩:=rC V hi;have hlen:(flat xs).length=xs.length*4:=dI xs;have BZ:xs.length<=cap:=u.1;replace u:=u.2
 change cap*4<=_ at u
 refine acK _ _ _ _ _ ?_;unfold S224;refine pop (Jb fT) (Xr fT bL bL bL bL λ_=>aG (aC (λc=>absurd c bL) λ_=>pop (Jb fT) ?_))
 have G:pr hH (oa 179 (.slice (some ⟨b,0,none⟩) xs.length cap) none (some (ir (i:Int))) none)=some (.slice (some ⟨b,0,none⟩) i cap):=by
  rw[wS fT (l:=0) (h:=i) (og (.inl ⟨rfl,rfl⟩) (.inr ⟨_,rfl,bL,bL⟩) bL bL)];simp[gi]
 refine pop G (B2 fT V5 bL bL λs25 B=>?_);rw[show((i:Int)+1).toNat=i+1 from bL]at B;have J:(xs.drop (i+1)).length=xs.length-(i+1):=ee
 obtain⟨w1,W,b1,g1⟩:=GW (P:=hH) (R:=179) (n:=i) (cap:=cap) fT (hb.of_eq (w':=drew w) rfl) (B.ext (Ext.drew w)) bL (by rw[l0,hlen,J];change i*4+(xs.length-(i+1))*4<=_;omega);rw[J,show i+(xs.length-(i+1))=xs.length-1 from bL]at W;refine⟨_,w1,W,?_⟩;refine pop (Jb fT) ?_
 have M:pr hH (oa 179 (.slice (some ⟨b,0,none⟩) (xs.length-1) cap) (some (ir ((xs.length-1:Nat):Int))) (some (ir (xs.length:Int))) none)=some (.slice (some ⟨b,(xs.length-1)*4,none⟩) 1 (cap-(xs.length-1))):=by
  rw[wS fT (l:=xs.length-1) (h:=xs.length) (og (.inr ⟨_,rfl,bL,bL⟩) (.inr ⟨_,rfl,bL,bL⟩) bL bL),ei bL];simp[gi];omega
 refine pop M ?_;have hx:xs[i]?=some xs[i]:=by simp[hi]
 have Ae:=zu hx;have E:(flat (xs.take i)).length=i*4:=by rw[dI,l9,GF bL];rfl
 have I:(flat (xs.drop (i+1))).length=(xs.length-(i+1))*4:=by rw[dI,J];rfl
 have Y:(kp xs[i]).length=4:=rfl;have hZ:(flat (oz 1 (⟨0,0,0,0⟩:bH))).length=4:=rfl
 have s1:iI (flat xs++rest) (i*nk bH) (flat (xs.drop (i+1))) =
   flat (xs.take i)++flat (xs.drop (i+1))++((kp xs[i]++flat (xs.drop (i+1))).drop (flat (xs.drop (i+1))).length++rest):=by
  have:=ly (flat (xs.take i)) ((kp xs[i]++flat (xs.drop (i+1))).take (flat (xs.drop (i+1))).length)
   ((kp xs[i]++flat (xs.drop (i+1))).drop (flat (xs.drop (i+1))).length++rest) (flat (xs.drop (i+1))) (by rw[l9,l0];omega)
  rw[E]at this
  change iI (flat xs++rest) (i*4) _=_
  rw[<- this,Ae]
  have e0:∀(a b c d:List Value) (n:Nat),a++(b++c)++d=a++(b++c).take n++((b++c).drop n++d):=λa b c d n=>by
   rw[n4 a ((b++c).take n),<- n4 ((b++c).take n),qT,n4 a]
  exact gL (λz=>iI z (i*4) (flat (xs.drop (i+1)))) (by first|exact e0 _ _ _ _ _|(rw[<- e0];simp only[n4])|(simp only[n4];rw[<- n4 (List.take _ _),qT,n4]))
 rw[s1]at b1
 obtain⟨w2,r2,b2,g2⟩:=Uq (P:=hH) (R:=0) (o:=(xs.length-1)*4) (n:=1) (c:=cap-(xs.length-1)) (z:=(⟨0,0,0,0⟩:bH)) fT ri b1
  (by simp only[l0,sJ,E,I,Y];change _+1*4<=_;omega)
 refine⟨_,w2,r2,?_⟩
 have Z:=ly (flat (xs.take i)++flat (xs.drop (i+1))) ((kp xs[i]++flat (xs.drop (i+1))).drop (flat (xs.drop (i+1))).length) rest (flat (oz 1 (⟨0,0,0,0⟩:bH)))
  (by rw[sJ,l0,Y,hZ];omega)
 rw[show(flat (xs.take i)++flat (xs.drop (i+1))).length=(xs.length-1)*4 from by rw[l0,E,I];omega,n4 _ _ rest]at Z;rw[Z]at b2;refine⟨trivial,F,.inr ⟨b,cap,flat (oz 1 (⟨0,0,0,0⟩:bH))++rest,?_,?_,?_,U⟩,λ_ hb=>.inl hb,((Ext.drew w).aF (A:=F)).trans (g1.trans (C:=F) g2 (λk O=>(U k).2 O) λk _ O=>(U k).2 O) (λ_ h=>h) λ_ _ h=>h⟩
 .rw[Tw hi]
 .rw[Hm,ig,<- n4];exact b2
 refine⟨by rw[Tw hi];omega,?_⟩;rw[Hm,ig]
 change cap*4<=_
 rw[l0,hlen]at u;simp only[l0,E,I,hZ];omega
def C223(I:Value)(xs:List bH)(w:World)(G:cZ (λ_=>True) w I xs)(W:xs.length<=1073741824):CR 223 [I] w (λv w'=>lf (bF v xs) w w'):=by
 have B:=G;obtain⟨a,cap,rfl,V,h3⟩:=G;have u:=St.start w;refine fb Tryz.func223 ?_;refine W8 (ft fT).1 (λM=>?_) ?_
 .rcases h3 with⟨h,hc⟩|⟨b,o,h,_⟩
  .exact⟨by rw[h];rfl,hc⟩
  rw[M]at h;cases h
 refine aW (λE=>?_) (λE=>?_)
 .have U:a=none:=by cases a with|none=>rfl|some _=>cases E
  have O:xs=[]:=by
   rcases h3 with⟨h,_⟩|⟨b,o,h,_⟩
   .exact h
   .rw[U]at h;cases h
  subst O;exact u.eU.fresh
 refine bD ([]:List bH) u fT rfl rfl (dQ rfl) (λY _ u=>?_);have J:=(B.ext u.aF);exact bJ u fT J (by simp<;>omega) dy (λ_ _ u=>u.fresh)
def C153(p:Nat)(room:Int)(l:List bH)(w:World)(hb:sH w p room l)(M:l.length<=1073741824):CR 153 [.pointer (some ⟨p,0,none⟩)] w (λv w'=>lf (bF v l) w w'):=by
 obtain⟨J,I,E,G⟩:=hb;have u:=St.start w;refine fb Tryz.func153 ?_;refine aD (aA kK (bE iK (E.ext u.aF) (dR agw (C223 _ _ _ (G.ext u.aF) bL) ?_)));rintro _ _ B;have u:=u.made B;exact u.fresh
theorem M5{room:Int}{l:List bH}{x:bH}(h:right x=false):M4 room l x=1:=by unfold M4;rw[h];rfl
theorem M6{room:Int}{l:List bH}{x:bH}(h:right x=false):sI room l x=l:=by unfold sI;rw[h];rfl
theorem H6{room:Int}{l:List bH}{x:bH}(h:right x=true)(u:room<=l.length):M4 room l x=2:=by grind[M4]
theorem H7{room:Int}{l:List bH}{x:bH}(u:room<=l.length):sI room l x=l:=by grind[sI]
theorem Ta{room:Int}{l:List bH}{x:bH}(h:right x=true)(u:¬ room<=l.length):M4 room l x=0:=by grind[M4]
theorem Tb{room:Int}{l:List bH}{x:bH}(h:right x=true)(u:¬ room<=l.length):sI room l x=l++[x]:=by unfold sI;grind
def C162(p:Nat)(room:Int)(l:List bH)(x:bH)(F:Nat->Prop)(w:World)(M:(iR p room l).p w F)(V:l.length<=1048576):CR 162 [.pointer (some ⟨p,0,none⟩),jr x] w (λv w'=>v=ir (M4 room l x)/\mT F (iR p room (sI room l x)) w w'):=by
 have u:=St.begin M;obtain⟨W,u⟩:=u.dK;have u:=u.split;refine pj Tryz.func162 (pl:=av5) ?_;refine cP u (λI _ u=>aE ij u.At (aV an7 u (C228 _ _) λ_ G u=>bN (aW (λB=>?_) λB=>aV agu u (C215 _ _ _ _ (sH.mk' u.p1.hb u.p2.dS)) λ_ G u=>aC (λE=>?_) λE=>?_)))
 .have u:=u.p2.p2;rw[M5 (by simpa using B),M6 (by simpa using B)];exact⟨rfl,(iR.shut u).mut⟩
 .have u:=u.p2.p2;rw[H6 (by simpa using B) E,H7 E];exact⟨rfl,(iR.shut u).mut⟩
 refine aD (aA kK (have u:=u.drew;aB iK u.p1.hb rfl (aE ij u.At (bD ([x]) u fT rfl rfl (dQ rfl) λO _ u=>?_))));refine⟨aH iK (u.p2.hb.cell rfl),?_⟩;have J:=u.dS;refine bJ u.p3 fT J (by simp<;>omega) dy (λU _ u=>have u:=u.p1.drop;aD (aA kK (aR u.p2 iK (dQ rfl) u.dS.one λ_ u=>?_)));have u:=u.p1.p1;rw[Ta (by simpa using B) E,Tb (by simpa using B) E];exact⟨rfl,(iR.shut u).mut⟩
theorem rG{l:List bH}{i:Int}(h:ru l i=false):dF l i=⟨0,0,0,0⟩:=by unfold dF;rw[h];rfl
theorem rH{l:List bH}{i:Int}(h:ru l i=false):jL l i=l:=by unfold jL;rw[h];rfl
theorem yu{l:List bH}{i:Int}(h:i<0\/(l.length:Int)<=i):xF l i=1:=by unfold xF;omega
theorem M7{l:List bH}{i:Int}(u:0<=i/\i<l.length)(h:ru l i=false):xF l i=13:=by unfold xF;grind
theorem M8{l:List bH}{i:Int}(h:ru l i=true):xF l i=0:=by unfold xF;rw[ej (aeJ h),h];rfl
theorem M9{l:List bH}{i:Int}{x:bH}(h:ru l i=true)(u:l[i.toNat]?=some x):dF l i=x:=by unfold dF;grind
theorem Na{l:List bH}{i:Int}(h:ru l i=true):jL l i=l.eraseIdx i.toNat:=by unfold jL;rw[h];rfl
def C155(p:Nat)(room:Int)(l:List bH)(i:Int)(F:Nat->Prop)(w:World)(E:(iR p room l).p w F)(hn:l.length<=1048576):CR 155 [.pointer (some ⟨p,0,none⟩),ir i] w (λv w'=>v=.tuple #[jr (dF l i),ir (xF l i)]/\mT F (iR p room (jL l i)) w w'):=by
 have u:=St.begin E;obtain⟨sv,u⟩:=u.dK;have u:=u.split;refine fb Tryz.func155 ?_;refine aQ u ri (λPj _ u=>?_);refine⟨_,?_,λ_ _ h=>h⟩;refine aN (aC (λJ=>?_) λJ=>?_)
 .intro W;refine gO (pop yi (aM (x:=(⟨0,0,0,0⟩:bH)) u ij rfl rfl λY u=>aE ij u.At ?_));have u:=u.p2.p2;rw[rG (lR bL),yu bL,rH (lR bL)];exact⟨rfl,(iR.shut u).mut⟩
 refine aD (aA kK (aB iK u.p1.hb rfl (aI fT u.p2.dS (cO ?_))));intro W;refine aC (λU=>?_) (λU=>aV agv u (C216 _ _ _ _ _ (sH.mk' u.p1.hb u.p2.dS) bL) λ_ Z u=>bN (aW (λB=>?_) λB=>?_))
 .refine pop yi (aM (x:=(⟨0,0,0,0⟩:bH)) u ij rfl rfl λY u=>aE ij u.At ?_);have u:=u.p2.p2;rw[rG (lR bL),yu bL,rH (lR bL)];exact⟨rfl,(iR.shut u).mut⟩
 .refine pop yi (aM (x:=(⟨0,0,0,0⟩:bH)) u ij rfl rfl λ_ u=>aE ij u.At ?_);have u:=u.p2.p2;rw[rG (by simpa using B),M7 bL (by simpa using B),rH (by simpa using B)];exact⟨rfl,(iR.shut u).mut⟩
 refine aD (aA kK (aB iK u.p1.hb rfl ?_));obtain⟨G,I⟩:=gx l (i:=(i).toNat) bL;refine dG u.p2 fT bL bL (λ_ O=>fM u.p2 ij O I (aQ u ri λQr _ u=>aM (x:=G) u ij rfl rfl λ_ u=>aD (aA kK (aB iK u.p2.hb rfl (dR agw (C223 _ _ _ u.p3.dS bL) ?_)))));rintro _ _ V;have u:=u.made V;refine aJ bL (qe an5 u (H':=λv=>bF v (l.eraseIdx i.toNat)) (Φ:=λ_ _=>True) (λF E=>?_) ?_)
 .exact C224 _ i _ F _ E bL bL bL
 rintro M _ _ u;refine aD (aA kK (aR u.p3 iK (dQ rfl) u.dS.one λ_ u=>aE ij u.p2.At (aM (x:=G) u.p3 ij rfl rfl λ_ u=>aE ij u.At ?_)));have u:=u.p2.p2;rw[M9 (by simpa using B) I,M8 (by simpa using B),Na (by simpa using B)];exact⟨rfl,(iR.shut u).mut⟩
def lu(l:List bH)(c:Int):Option Int:=(l.reverse.find? λx=>decide (x.kind=3/\x.cell=c)).map (·.n)
def C307(y O:Value)(b:Nat)(xs:List bH)(J:Nat->hM)(M:hM)(w:World)(hn:xs.length<=1073741824)
  (E:∀k W,J k W->Cell W b 0 O/\cZ (λ_=>True) W O xs) (G:J 0 w)
  (Z:∀k x W,xs.reverse[k]?=some x->J k W->kG hH y [ir ((xs.length:Int)-1-k),jr x] W λv I=>(v=.bool true/\J (k+1) I)\/(v=.bool false/\M I)) :
  CR 307 [y,.pointer (some ⟨b,0,none⟩)] w (λ_ W=>J xs.length W\/M W):=by
 refine acV _ _ _ _ ?_;unfold S307;refine bE iK (E 0 w G).1 (aI fT (E 0 w G).2 (fc bL ?_));refine⟨λm x u=>∃k:Nat,x=ir ((xs.length:Int)-1-k)/\m=xs.length-k/\k<=xs.length/\J k u,⟨_,0,ee,rfl,l2 _,G⟩,?_⟩;rintro m _ u ⟨k,rfl,rfl,hk,U⟩ _;refine cO (aC (λc=>?_) λc=>?_)
 .obtain⟨h1,h2⟩:=E k u U;have nw:k<xs.length:=bL
  have Y:xs.reverse[k]?=some (xs[xs.length-1-k]'(bL)):=cD
  refine bE iK h1 (aK fT h2 bL (x:=xs[xs.length-1-k]'(bL)) (by simp_all) λq V=>aE ij V ?_);obtain B:=Z k _ u Y U;refine kG.mono B ?_;rintro v w2 (⟨rfl,Cm⟩|⟨rfl,HT⟩)
  .refine bN (eR (fc bL ?_))
   grind
  refine bN (gO ?_)
  grind
 grind
def C276(B:Value)(w:World)(h1:rN B=true):CR 276 [B] w (λv w'=>∃b,v=.func (.func 307) [].toArray [.pointer (some ⟨b,0,none⟩)].toArray/\lf (bX b [B]) w w'):=by
 have u:=St.start w;refine fb Tryz.func276 ?_;exact nx u h1 (λb _ u=>⟨b,rfl,u.fresh⟩)
theorem H8{α:Type}{p:α->Bool}{l:List α}{k:Nat}{x:α}(u:∀y∈l.take k,p y=false)(I:l[k]?=some x)(B:p x=true):l.find? p=some x:=by
 rw[List.find?_eq_some_iff_getElem]
 have E:=(kE.1 I)
 obtain⟨G,J⟩:=E
 refine⟨B,k,G,J,λj M=>?_⟩
 have:=u (l[j]'(bL)) (List.mem_take_iff_getElem.2 ⟨j,bL,rfl⟩)
 simp[this]
def C226(p:Nat)(c room:Int)(l:List bH)(w:World)(hb:sH w p room l)(hn:l.length<=1048576) :
  CR 226 [.pointer (some ⟨p,0,none⟩),ir c] w (λv w'=>v=.tuple #[ir ((lu l c).getD 0),.bool (lu l c).isSome]/\Ext w w'):=by
 obtain⟨sv,ye,te,hL⟩:=hb;have u:=St.start w;refine fb Tryz.func226 ?_;refine nx u rfl (λb3 _ u=>gV u tB rfl λb4 _ u=>gV u R5 rfl λb5 _ u=>aD (aA kK (bE iK (te.ext u.aF) (dR aol (C276 sv _ hL.one) ?_))));rintro _ _ ⟨b,rfl,cE⟩;have u:=u.made cE
 refine xe (cap:=[.pointer (some ⟨b,0,none⟩)]) (xs:=(tg l.length).map fun (k:Nat)=>[n3 .i64 ((l.length:Int)-1-k),jr ((l.reverse[k]?).getD ⟨0,0,0,0⟩)]) aox u
  (λk M=>M=[bX b [sv],bX b5 [.bool false],bX b4 [ir 0],bX b3 [ir c]]/\∀y∈l.reverse.take k,decide (y.kind=3/\y.cell=c)=false)
  (λcd M=>cd=.ret/\∃x,lu l c=some x/\M=[bX b5 [.bool true],bX b4 [ir x]])
  ⟨rfl,ee⟩ ee ?_ ?_ ?_ ?_ ?_ ?_
 ·
  intro y J Jx W hJ Zl Ur hy;refine(C307 y sv b l J Jx W bL (λk W E=>?_) Ur λk x W G E=>?_).mono λ_ _ r=>r.mono λv W' h=>?_
  .obtain⟨Y,M,⟨rfl,_⟩,hS⟩:=hJ k W E;exact⟨hS.p1.hb.cell rfl,hL.ext hS.aF⟩
  .have I:=(kE.1 G).1;rw[List.length_reverse]at I;have:=hy k [n3 .i64 ((l.length:Int)-1-k),jr x] W (by rw[o6,Jv I];simp[G]) E;exact this
  simpa using h
 ·
  rintro k args Y1 Y2 B Kr M W E ⟨rfl,U⟩ hB hN hR u
  have I:k<l.length:=by
   have:=(kE.1 E).1
   simpa using this
  obtain⟨x,G⟩:∃x,l.reverse[k]?=some x:=⟨_,lU (by simpa using I)⟩
  have ha:args=[n3 .i64 ((l.length:Int)-1-k),jr x]:=by
   rw[o6,Jv I]at E;simp[G]at E;exact E.symm
  subst ha;dsimp only[Eo];refine aQ u ri (λb7 _ u=>wR u ij rfl dy (by simp[rN,iI]) λ_ u=>?_);refine hB _ _ _ u.p1 (λw8 u=>?_);have e7:iI [n3 IntKind.i64 0,ir 0,ir 0,ir 0] 0 [n3 .i64 x.kind,ir x.line,ir x.cell,ir x.n]=kp x:=rfl;refine⟨_,?_,λ_ _ h=>h⟩;refine aA gH (aB bO u.p1.hb rfl (aG ?_))
  have no:¬ (x.kind=3/\x.cell=c)->Kr none w8:=λO=>by
   refine hN _ _ u.p1.drop.p0 ⟨rfl,?_⟩;exact dY U G (by simpa using O)
  refine aC (λZ=>?_) (λZ=>?_)
  .refine aA mn (aB bO u.p1.hb rfl (aB bO u.p5.hb rfl (aG ?_)));intro rn;refine aC (λV=>aA oM (aB bO u.p1.hb rfl (aR u.p4 bO (Fq rfl) rfl λ_ u=>aR u.p4 DH (Fq rfl) rfl λ_ u=>hR _ [bX b5 [.bool true],bX b4 [ir x.n]] _ u.p5.drop.p4.drop.p3.drop.p2 ⟨rfl,x.n,?_,rfl⟩))) (λV=>no λO=>V O.2);unfold lu;rw[H8 U G (by simpa using⟨Z,V⟩)];rfl
  intro rn;exact eR (no λO=>Z O.1)
 ·
  rintro D M W ⟨rfl,U⟩ u;refine aR u.p3 bO (Fq rfl) rfl (λ_ u=>aR u.p3 DH (Fq rfl) rfl λ_ u=>?_);refine EI u.p2 (λw15 u=>?_);refine aB bO u.p1.hb rfl (aB DH u.hb rfl ?_)
  have:lu l c=none:=by
   unfold lu
   rw[show l.reverse.find? _=none from List.find?_eq_none.2 λy hy=>by
    have:=U y (by rw[la ee];exact hy);simp only[this];exact Bool.false_ne_true]
   rfl
  rw[this];exact⟨rfl,u.aF⟩
 .rintro D M W ⟨_,x,hl,rfl⟩ u;refine EI u (λw15 u=>?_);refine aB bO u.p1.hb rfl (aB DH u.hb rfl ?_);rw[hl];exact⟨rfl,u.aF⟩
 .rintro id D M W ⟨h,_⟩;cases h
 rintro c M ⟨h,_⟩;exact .inr h
theorem J0{α:Type}(l:List α)(i:Nat):([]++l.take i)++l.drop (i+1)=l.eraseIdx i:=by
 grind
def J1{α:Type}{xs ys:List α}{k:Nat}{e f:α}(h:xs.take k=ys.take k)(h1:xs[k]?=some e)(h2:ys[k]?=some f)(u:e=f):xs.take (k+1)=ys.take (k+1):=by
 rw[v7,v7,h,h1,h2,u]
def U5{α:Type}{xs ys:List α}{k:Nat}{e f:α}(h1:xs[k]?=some e)(h2:ys[k]?=some f)(u:¬ e=f):¬ xs=ys:=by
 grind
theorem Qs{l:List bH}{c:Int}{k:Nat}{x:bH}(E:∀y∈l.drop (k+1),¬ (y.kind=3/\y.cell=c))(B:l[k]?=some x)(G:x.kind=3/\x.cell=c):lu l c=some x.n:=by
 unfold lu
 have I:=(kE.1 B).1
 rw[H8 (k:=l.length-1-k) (x:=x) ?_ ?_ cD]
 .rfl
 .intro y u
  have:y∈l.drop (k+1):=by
   rw[List.take_reverse]at u
   grind
  grind
 grind
theorem Qt{l:List bH}{c:Int}(u:∀y∈l,¬ (y.kind=3/\y.cell=c)):lu l c=none:=by
 grind[lu]
def Tc{l:List bH}{c:Int}{k:Nat}{x:bH}(G:∀y∈l.drop (k+1),¬ (y.kind=3/\y.cell=c))(E:l[k]?=some x)(I:¬ (x.kind=3/\x.cell=c)):∀y∈l.drop k,¬ (y.kind=3/\y.cell=c):=by
 intro y u
 obtain⟨B,J⟩:=kE.1 E
 rw[List.drop_eq_getElem_cons B]at u
 grind
def aeK{l:List bH}{i:Int}{k:Nat}{x y:bH}(u:0<=i)(h1:i<l.length)(B:l[i.toNat]?=some x)(I:k<i.toNat)(E:l[k]?=some y)(G:jU x y=false):ru l i=false:=by
 rw[S9 u h1 B]
 have:(l.take i.toNat).any (λy=>!jU x y)=true:=by
  rw[List.any_eq_true]
  exact⟨y,List.mem_iff_getElem?.2 ⟨k,cD⟩,cD⟩
 grind
def ZI{l:List bH}{i:Int}{x:bH}(u:0<=i)(h1:i<l.length)(E:l[i.toNat]?=some x)(B:∀y∈l.take i.toNat,jU x y=true):ru l i=true:=by
 grind[ru]
def C49(room:Int)(w:World):CR 49 [ir room] w (λv w'=>((room<1\/16<room)/\v=.tuple #[.pointer none,ir 1]/\Ext w w')\/(1<=room/\room<=16/\∃b,v=.tuple #[.pointer (some ⟨b,0,none⟩),ir 0]/\lf (iR b room []) w w')):=by
 have u:=St.start w;refine fb Tryz.func49 ?_;refine⟨_,?_,λ_ _ h=>h⟩;refine aN (aC (λB=>?_) λB=>?_)
 .intro E;exact gO (.inl ⟨bL,rfl,u.aF⟩)
 refine cL ?_;intro E;exact aC (λ_=>.inl ⟨bL,rfl,u.aF⟩) (λ_=>pop (Xl _) (jZ u λb _ u=>have u:=(u.eU (α:=bH)).p1;.inr ⟨bL,bL,b,rfl,(iR.shut u).fresh⟩))
def C58(room:Int)(w:World):CR 58 [ir room] w (λv w'=>((room<1\/16<room)/\v=.tuple #[.pointer none,ir 1]/\Ext w w')\/(1<=room/\room<=16/\∃b,v=.tuple #[.pointer (some ⟨b,0,none⟩),ir 0]/\lf (iR b room []) w w')):=by
 have u:=St.start w;refine fb Tryz.func58 ?_;refine⟨_,?_,λ_ _ h=>h⟩;refine aN (aC (λB=>?_) λB=>?_)
 .intro E;exact gO (.inl ⟨bL,rfl,u.aF⟩)
 refine cL ?_;intro E;exact aC (λ_=>.inl ⟨bL,rfl,u.aF⟩) (λ_=>pop (Xm _) (jZ u λb _ u=>have u:=(u.eU (α:=bH)).p1;.inr ⟨bL,bL,b,rfl,(iR.shut u).fresh⟩))
def C84(p:Nat)(room:Int)(l:List bH)(w:World)(hb:sH w p room l)(V:l.length<=1048576):CR 84 [.pointer (some ⟨p,0,none⟩)] w (λv w'=>∃b,v=.pointer (some ⟨b,0,none⟩)/\lf (iR b room l) w w'):=by
 have E:=hb;obtain⟨W,B,J,U⟩:=hb;have u:=St.start w;refine aiB _ _ _ ?_;unfold S84;refine aD (aA LA (have u:=u.drew;bE bO (B.ext u.aF) (dR agn (C153 _ _ _ _ (E.ext u.aF) bL) ?_)));rintro _ _ G;have u:=u.made G;refine⟨aH bO (B.ext u.aF),?_⟩;obtain⟨O,M,I,_⟩:=u.dS;subst I;exact pop (O3 _ _ _ _) (jZ u λb _ u=>⟨b,rfl,(iR.shut u).fresh⟩)
def C71(M V:Value)(xs ys:List Int)(w:World)(I:cZ (λ_=>True) w M xs)(U:cZ (λ_=>True) w V ys)(hn:xs.length<=1073741824):CR 71 [M,V] w (λv w'=>v=.bool (decide (xs=ys))/\Ext w w'):=by
 have u:=St.start w;refine pj Tryz.func71 (pl:=P71) ?_;refine aI cQ (I.ext u.aF) (aI cQ (U.ext u.aF) (bW (aC (λ_=>⟨vb (ez (by rintro rfl;omega)).symm,u.aF⟩) λfZ=>?_)));refine⟨λm x O=>∃k:Nat,x=ir (k:Int)/\m=xs.length-k/\k<=xs.length/\xs.take k=ys.take k/\St w aX [] O,⟨_,0,rfl,rfl,l2 _,rfl,u⟩,?_⟩;rintro m _ O ⟨k,rfl,rfl,hk,E,u⟩ _;refine aI cQ (I.ext u.aF) (aN (aC (λja=>?_) λ_=>⟨vb (ew (by rw[la bL,la bL]at E;exact E)).symm,u.aF⟩));obtain⟨Z,G⟩:=gx xs (i:=(k:Int).toNat) bL
 refine aK cQ (I.ext u.aF) bL G (λ_ W=>have u:=u.drew;aE bO W ?_);obtain⟨po,J⟩:=gx ys (i:=(k:Int).toNat) bL;exact aK cQ (U.ext u.aF) bL J (λ_ Y=>aE bO Y (bW (aC (λB=>⟨vb (ez (U5 G J B)).symm,u.aF⟩) λB=>aJ bL ⟨xs.length-(k+1),bL,k+1,rfl,rfl,bL,J1 E G J (A0.1 B),u⟩)))
def C229(p:Nat)(c room:Int)(l:List bH)(w:World)(hb:sH w p room l)(hn:l.length<=1073741824):CR 229 [.pointer (some ⟨p,0,none⟩),ir c] w (λv w'=>v=.tuple #[ir ((lu l c).getD 0),.bool (lu l c).isSome]/\Ext w w'):=by
 obtain⟨sv,ye,I,J⟩:=hb;have u:=St.start w;refine acL _ _ _ _ ?_;unfold S229;refine aD (aA gW (bE iK (I.ext u.aF) (aI fT (J.ext u.aF) (fc bL ?_))));refine⟨λm x V=>∃k:Nat,x=ir ((k:Int)-1)/\m=k/\k<=l.length/\(∀y∈l.drop k,¬ (y.kind=3/\y.cell=c))/\St w aX [] V,⟨_,l.length,rfl,rfl,sl _,ee,u⟩,?_⟩;rintro k _ V ⟨_,rfl,rfl,hk,G,u⟩ _;refine cO (aC (λja=>?_) λja=>?_)
 .refine⟨_,?_,λ_ _ h=>h⟩;refine aD (aA gW (bE iK (I.ext u.aF) ?_));obtain⟨B,E⟩:=gx l (i:=((k:Int)-1).toNat) bL;refine aK fT (J.ext u.aF) bL E (λ_ W=>bT B.kind gH W rfl rfl λ_ oV=>aE bO oV (aG (aC (λM=>?_) λM=>?_)))
  .refine aD (aA gW (bE iK (I.ext u.aF) (aK fT (J.ext u.aF) bL E λ_ xz=>bT B.cell mn xz rfl rfl λ_ Y=>aE bO Y (aG ?_))));intro vp;refine aC (λO=>?_) (λO=>fc bL ⟨k-1,bL,k-1,by congr 1;omega,rfl,bL,Tc (x:=B) (by rw[show k-1+1=k from bL];exact G) (by rw[<- E];congr 1;omega) (λU=>O U.2),u⟩);refine aD (aA gW (bE iK (I.ext u.aF) (aK fT (J.ext u.aF) bL E λ_ wq=>bT B.n oM wq rfl rfl λ_ Z=>aE bO Z ?_)))
   rw[Qs (k:=k-1) (x:=B) (by rw[show k-1+1=k from bL];exact G) (by rw[<- E];congr 1;omega) ⟨M,O⟩];exact⟨rfl,u.aF⟩
  intro vp;exact eR (fc bL ⟨k-1,bL,k-1,by congr 1;omega,rfl,bL,Tc (x:=B) (by rw[show k-1+1=k from bL];exact G) (by rw[<- E];congr 1;omega) (λU=>M U.1),u⟩)
 rw[Qt (by rw[show k=0 from bL]at G;simpa using G)];exact⟨rfl,u.aF⟩
def C151(p:Nat)(i room:Int)(l:List bH)(w:World)(hb:sH w p room l)(hn:l.length<=1073741824):CR 151 [.pointer (some ⟨p,0,none⟩),ir i] w (λv w'=>v=.bool (ru l i)/\Ext w w'):=by
 obtain⟨sv,ye,G,J⟩:=hb;have u:=St.start w;refine pj Tryz.func151 (pl:=av2) ?_;refine⟨_,?_,λ_ _ h=>h⟩;refine aN (aC (λgQ=>?_) λgQ=>?_)
 .intro Z;exact gO ⟨vb (lR bL).symm,u.aF⟩
 refine aD (aA gW (bE iK (G.ext u.aF) (aI fT (J.ext u.aF) (cO ?_))));intro Z;refine aC (λ_=>⟨vb (lR bL).symm,u.aF⟩) (λeb=>?_);refine⟨λm x O=>∃k:Nat,x=ir (k:Int)/\m=i.toNat-k/\(k:Int)<=i/\(∀x y,l[i.toNat]?=some x->y∈l.take k->jU x y=true)/\St w aX [] O,⟨_,0,rfl,rfl,bL,ee,u⟩,?_⟩;rintro m _ O ⟨k,rfl,rfl,hk,U,u⟩ _;refine aN (aC (λW=>?_) λW=>⟨vb (ZI (x:=l[i.toNat]'(bL)) bL bL (lU _) λy B=>U _ y (lU _) (by rw[show k=i.toNat from bL];exact B)).symm,u.aF⟩)
 refine aD (aA gW (have u:=u.drew;bE iK (G.ext u.aF) ?_));obtain⟨F3,E⟩:=gx l (i:=(i).toNat) bL;refine aK fT (J.ext u.aF) bL E (λ_ Y=>aE ij Y (aD (aA gW (bE iK (G.ext u.aF) ?_))));obtain⟨u9,M⟩:=gx l (i:=(k:Int).toNat) bL;refine aK fT (J.ext u.aF) bL M (λ_ u0=>aE ij u0 (aV an4 u (C222 _ _ _) λ_ he u=>bN (aW (λI=>⟨vb (aeK bL bL E bL M (by simpa using I)).symm,u.aF⟩) λI=>aJ bL ?_)));refine⟨i.toNat-(k+1),bL,k+1,rfl,rfl,bL,λx y V B=>?_,u⟩
 rw[ob.inj (V.symm.trans E)]at *;exact dY (φ:=λy=>jU F3 y=true) (λy B=>U _ y V B) M (by simpa using I) y B
def C81(p:Nat)(room:Int)(l:List bH)(w:World)(hb:sH w p room l)(hn:l.length<=1048576):CR 81 [.pointer (some ⟨p,0,none⟩)] w (λv w'=>lf (bF v (py l)) w w'):=by
 have J:=hb;obtain⟨sv,ye,I,M⟩:=hb;have u:=St.start w;refine fb Tryz.func81 ?_;refine bD ([]:List Int) u cQ rfl rfl (dQ rfl) (λLV E u=>?_);refine⟨λm o x E=>∃k:Nat,x=ir (k:Int)/\m=l.length-k/\k<=l.length/\St w aX [bF o (sG l k)] E,⟨_,0,rfl,rfl,l2 _,u⟩,?_⟩;rintro m o _ E ⟨k,rfl,rfl,Z,u⟩ _;have Ag:=HZ l k;refine aD (aA gW (bE iK (I.ext u.aF) (aI fT (M.ext u.aF) (aN (aC (λO=>⟨_,aV agm u (C151 _ _ _ _ _ (J.ext u.aF) bL) (λ_ W u=>aW (λG=>?_) λG=>?_),λ_ _ h=>h⟩) λO=>?_)))))
 .refine bD ([(k:Int)]:List Int) u cQ rfl rfl (dQ rfl) (λY _ u=>?_);have B:=u.dS;refine bJ u.p1 cQ B (by simp<;>omega) dy (λU _ u=>?_);have u:=u.p1.drop;intro V;exact aJ bL ⟨l.length-(k+1),bL,k+1,rfl,rfl,bL,by rw[FY G];exact u⟩
 .intro V;exact aJ bL ⟨l.length-(k+1),bL,k+1,rfl,rfl,bL,by rw[H0 G];exact u⟩
 rw[FZ l bL]at u;exact u.fresh
def C230(p:Nat)(room:Int)(l:List bH)(x:bH)(F:Nat->Prop)(w:World)(O:(iR p room l).p w F)(V:l.length<=1048576):CR 230 [.pointer (some ⟨p,0,none⟩),jr x] w (λv w'=>v=ir (M4 room l x)/\mT F (iR p room (sI room l x)) w w'):=by
 have u:=St.begin O;obtain⟨W,u⟩:=u.dK;have u:=u.split;refine pj Tryz.func230 (pl:=awg) ?_;refine cP u (λI _ u=>aE ij u.At (aV aom u (C277 _ _) λ_ U u=>bN (aW (λB=>?_) λB=>aD (aA gW (have u:=u.drew;aB iK u.p1.hb rfl (aI fT u.p2.dS (aD (aA Xg (aB bO u.p1.hb rfl (cO (aC (λE=>?_) λE=>?_)))))))))))
 .have u:=u.p2.p2;rw[M5 (by simpa using B),M6 (by simpa using B)];exact⟨rfl,(iR.shut u).mut⟩
 .have u:=u.p2.p2;rw[H6 (by simpa using B) E,H7 E];exact⟨rfl,(iR.shut u).mut⟩
 refine aD (aA gW (have u:=u.drew;aB iK u.p1.hb rfl (aE ij u.At (bD ([x]) u fT rfl rfl (dQ rfl) λG _ u=>?_))));refine⟨aH iK (u.p2.hb.cell rfl),?_⟩;have M:=u.dS;refine bJ u.p3 fT M (by simp<;>omega) dy (λJ _ u=>have u:=u.p1.drop;aD (aA gW (aR u.p2 iK (dQ rfl) u.dS.one λ_ u=>?_)));have u:=u.p1.p1;rw[Ta (by simpa using B) E,Tb (by simpa using B) E];exact⟨rfl,(iR.shut u).mut⟩
def C165(p:Nat)(room:Int)(l:List bH)(i:Int)(F:Nat->Prop)(w:World)(Z:(iR p room l).p w F)(hn:l.length<=1048576):CR 165 [.pointer (some ⟨p,0,none⟩),ir i] w (λv w'=>v=.tuple #[jr (dF l i),ir (xF l i)]/\mT F (iR p room (jL l i)) w w'):=by
 have u:=St.begin Z;obtain⟨sv,u⟩:=u.dK;have u:=u.split;refine acH _ _ _ _ ?_;unfold S165;refine aQ u ri (λPj _ u=>?_);refine⟨_,?_,λ_ _ h=>h⟩;refine aN (aC (λjA=>?_) λjA=>?_)
 .intro Y;refine gO (pop yi (aM (x:=(⟨0,0,0,0⟩:bH)) u ij rfl rfl λw3 u=>aE ij u.At ?_));have u:=u.p2.p2;rw[rG (lR bL),yu bL,rH (lR bL)];exact⟨rfl,(iR.shut u).mut⟩
 refine aD (aA gW (aB iK u.p1.hb rfl (aI fT u.p2.dS (cO ?_))));intro Y;refine aC (λO=>?_) (λO=>aV agm u (C151 _ _ _ _ _ (sH.mk' u.p1.hb u.p2.dS) bL) λ_ he u=>bN (aW (λB=>?_) λB=>?_))
 .refine pop yi (aM (x:=(⟨0,0,0,0⟩:bH)) u ij rfl rfl λw3 u=>aE ij u.At ?_);have u:=u.p2.p2;rw[rG (lR bL),yu bL,rH (lR bL)];exact⟨rfl,(iR.shut u).mut⟩
 .refine pop yi (aM (x:=(⟨0,0,0,0⟩:bH)) u ij rfl rfl λ_ u=>aE ij u.At ?_);have u:=u.p2.p2;rw[rG (by simpa using B),M7 bL (by simpa using B),rH (by simpa using B)];exact⟨rfl,(iR.shut u).mut⟩
 refine aD (aA gW (aB iK u.p1.hb rfl ?_));obtain⟨G,I⟩:=gx l (i:=(i).toNat) bL;refine dG u.p2 fT bL bL (λ_ mw=>fM u.p2 ij mw I (aQ u ri λQr _ u=>aM (x:=G) u ij rfl rfl λ_ u=>bD ([]:List bH) u fT rfl rfl (dQ rfl) λW _ u=>aD (aA gW (aB iK u.p3.hb rfl (uB fT u.p4.dS bL bL λaq8 wm=>?_)))));have E:=wm;refine bJ u fT E (by simp<;>omega) dy (λM _ u=>aD (aA gW (aB iK u.p3.hb rfl (aJ bL (B2 fT u.p4.dS bL bL λJ U=>?_)))))
 have V:=U;refine bJ u fT V (by simp<;>omega) dy (λarS _ u=>aD (aA gW (aR u.p3 iK (dQ rfl) u.dS.one λ_ u=>aE ij u.p2.At (aM (x:=G) u.p3 ij rfl rfl λ_ u=>aE ij u.At ?_))));have u:=u.p2.p2;rw[M9 (by simpa using B) I,M8 (by simpa using B),Na (by simpa using B),<- J0,<- show(i+1).toNat=i.toNat+1 from bL];exact⟨rfl,(iR.shut u).mut⟩
structure Mem where
 of:List Int
 ef:List Int
 l:List Int
 kept:List Int
 fj:Int->List iw
def fP(of:List Int):Int:=if of.length=0 then 0 else of.getD (of.length-1) 0+1
def nN(k:List Int)(ws:List iw):List Int:=ws.foldl (λk w=>k.set w.cell.toNat w.n) k
theorem xG(ws:List iw):∀k:List Int,(nN k ws).length=k.length:=by
 induction ws with
 | nil=>intro k;rfl
 | cons x ws u=>simp_all[nN]
theorem Cx(ws:List iw)(x:iw)(k:List Int):nN k (ws++[x])=(nN k ws).set x.cell.toNat x.n:=by
 unfold nN;grind
theorem H9{ws:List iw}{j:Nat}{x:iw}{k:List Int}(u:ws[j]?=some x):nN k (ws.take (j+1))=(nN k (ws.take j)).set x.cell.toNat x.n:=by
 rw[v7,u];exact Cx _ _ _
def G4(m:Mem)(cell:Int):Bool:=decide (0<=cell/\cell<m.l.length)
def fg(m:Mem)(cell n:Int):Mem:=if G4 m cell=true then {m with l:=m.l.set cell.toNat n,fj:=if cell<m.of.length then oX m.fj (m.of.getD cell.toNat 0) (m.fj (m.of.getD cell.toNat 0)++[⟨cell,n⟩])else m.fj}else m
def F4(m:Mem)(line:Int):Bool:=decide (0<=line/\line<fP m.of)
def n7(m:Mem)(line:Int):Mem:=if F4 m line=true then {m with kept:=nN m.kept (m.fj line),fj:=oX m.fj line []}else m
structure tO(m:Mem):Prop where
 G5:m.of.length<=m.ef.length
 fl:m.ef.length<=20
 ll:m.l.length=m.ef.length
 kl:m.kept.length=m.of.length
 ofr:∀n∈m.of,0<=n/\n<fP m.of
 lb:fP m.of<=20
 pc:∀k,∀x∈m.fj k,0<=x.cell/\x.cell<m.of.length
def MB(m:Mem)(n:Nat):Prop:=∀k,(m.fj k).length<=n
def gN(p:Nat)(ov fv:Value)(m:Mem):HP:=oO λlv=>oO λkv=>oO λpm=>sep (bX p [ov,fv,lv,kv,.map (some pm)]) (sep (bF lv m.l) (sep (bF kv m.kept) (pq pm m.fj)))
def Bi(ov fv:Value)(m:Mem)(w:World):Prop:=cZ (λ_=>True) w ov m.of/\cZ (λ_=>True) w fv m.ef
def va(w:World)(p:Nat)(m:Mem):Prop:=∃ov fv lv kv pm,Cell w p 0 ov/\Cell w p 1 fv/\Cell w p 2 lv/\Cell w p 3 kv/\Cell w p 4 (.map (some pm))/\cZ (λ_=>True) w ov m.of/\cZ (λ_=>True) w fv m.ef/\cZ (λ_=>True) w lv m.l/\cZ (λ_=>True) w kv m.kept/\tL w pm m.fj
section
variable {w w' w0:World}{A F:Nat->Prop}{R:List HP}{p:Nat}{ov fv lv kv:Value}{m:Mem}{pm:Nat}
theorem va.ext(h:va w p m)(e:Ext w w'):va w' p m:=by
 obtain⟨ov,fv,lv,kv,pm,J,E,u,B,I,G,h1,h2,h3,h4⟩:=h
 exact⟨ov,fv,lv,kv,pm,J.ext e,E.ext e,u.ext e,B.ext e,I.ext e,G.ext e,h1.ext e,h2.ext e,h3.ext e,h4.ext e⟩
theorem va.mk'(h:pk w p [ov,fv,lv,kv,.map (some pm)])(u:Bi ov fv m w)(h2:cZ (λ_=>True) w lv m.l)(h3:cZ (λ_=>True) w kv m.kept)(h4:tL w pm m.fj):va w p m:=
 ⟨ov,fv,lv,kv,pm,h.cell rfl,h.cell rfl,h.cell rfl,h.cell rfl,h.cell rfl,u.1,u.2,h2,h3,h4⟩
theorem gN.open(u:St w0 A (gN p ov fv m::R) w):∃lv kv pm,St w0 A (bX p [ov,fv,lv,kv,.map (some pm)]::bF lv m.l::bF kv m.kept::pq pm m.fj::R) w:=by
 obtain⟨lv,u⟩:=u.dK;obtain⟨kv,u⟩:=u.dK;obtain⟨pm,u⟩:=u.dK
 have h1:=u.split
 have h2:=h1.p1.split
 have h3:=h2.p1.split
 exact⟨lv,kv,pm,h3.p2.p3⟩
theorem gN.shut(u:St w0 A (bX p [ov,fv,lv,kv,.map (some pm)]::bF lv m.l::bF kv m.kept::pq pm m.fj::R) w):St w0 A (gN p ov fv m::R) w:=by
 have h1:St w0 A (sep (bF kv m.kept) (pq pm m.fj)::bX p [ov,fv,lv,kv,.map (some pm)]::bF lv m.l::R) w:=St.join u.p3.p3
 have h2:St w0 A (sep (bF lv m.l) (sep (bF kv m.kept) (pq pm m.fj))::bX p [ov,fv,lv,kv,.map (some pm)]::R) w:=St.join h1.p2
 exact St.dT lv (St.dT kv (St.dT pm (St.join h2.p1)))
theorem D2(u:St w0 A (gN p ov fv m::R) w)(B:Bi ov fv m w):va w p m:=by
 obtain⟨lv,kv,pm,u⟩:=gN.open u
 exact va.mk' u.hb B u.p1.dS u.p2.dS u.p3.Ya
end
def C148(p:Nat)(m:Mem)(w:World)(J:va w p m)(B:tO m):CR 148 [(.pointer (some ⟨p,0,none⟩))] w (λv w'=>v=ir (fP m.of)/\Ext w w'):=by
 have zV:=J;obtain⟨ov,fv,lv,kv,pm,E,c1,c2,c3,Z,I,J2,hL,U,hP⟩:=J;have Ia:=B.fl;have GI:=B.G5;have HC:=B.ll;have Ca:=B.kl;have W:=B.lb;have u:=St.start w;refine pj Tryz.func148 (pl:=av0) ?_;refine aD (aA uI (bE dX (E.ext u.aF) (aI cQ (I.ext u.aF) (aG (aC (λ_=>⟨gL (n3 .i64) (by unfold fP;rw[ej bL]),u.aF⟩) λV=>aD (aA uI (have u:=u.drew;bE dX (E.ext u.aF) (aD (aA uI (bE dX (E.ext u.aF) (aI cQ (I.ext u.aF) (fc bL ?_))))))))))));obtain⟨Y,G⟩:=gx m.of (i:=((m.of.length:Int)-1).toNat) bL
 refine aK cQ I bL G (λ_ M=>aE bO (M.ext u.aF) ?_);have O:=B.ofr _ (kO G);exact aJ bL ⟨gL (n3 .i64) (by unfold fP;rw[ei bL,oi,show m.of.length-1=((m.of.length:Int)-1).toNat from bL,G];rfl),u.aF⟩
def C227(p:Nat)(m:Mem)(cell:Int)(w:World)(E:va w p m)(hk:tO m):CR 227 [(.pointer (some ⟨p,0,none⟩)),ir cell] w (λv w'=>v=.tuple #[ir (if G4 m cell=true then m.l.getD cell.toNat 0 else 0),ir (if G4 m cell=true then 0 else 1)]/\Ext w w'):=by
 have zV:=E;obtain⟨ov,fv,lv,kv,pm,Z,c1,G,c3,Y,hO,J2,I,W,hP⟩:=E;have u:=St.start w;refine fb Tryz.func227 ?_;refine⟨λO w'=>O=.bool (decide (cell<0\/m.l.length<=cell))/\w=w',aN (aC (λ_=>⟨Oz bL,rfl⟩) λ_=>aD (aA rY (bE dX (G.ext u.aF) (aI cQ (I.ext u.aF) (cO ⟨yd bL,rfl⟩))))),?_⟩;rintro _ _ ⟨rfl,V⟩ _;subst V;refine aC (λU=>?_) (λU=>?_)
 .have B:G4 m cell=false:=by unfold G4;rw[decide_eq_false_iff_not];omega
  rw[B];exact⟨rfl,u.aF⟩
 refine aD (aA rY (bE dX (G.ext u.aF) ?_));obtain⟨F0,J⟩:=gx m.l (i:=cell.toNat) bL;refine aK cQ I bL J (λ_ M=>aE bO (M.ext u.aF) ?_);have B:G4 m cell=true:=by unfold G4;rw[decide_eq_true_eq];omega
 rw[B,oi,J];exact⟨rfl,u.aF⟩
def C144(p:Nat)(m:Mem)(w:World)(E:va w p m)(B:tO m):CR 144 [(.pointer (some ⟨p,0,none⟩))] w (λv w'=>lf (bF v m.l) w w'):=by
 have Z:=E;obtain⟨ov,fv,lv,kv,pm,U,Y,G,c3,O,hO,J2,I,J,V⟩:=E;have W:=B.fl;have GI:=B.G5;have HC:=B.ll;have Ca:=B.kl;have M:=B.lb;have u:=St.start w;refine fb Tryz.func144 ?_;exact aD (aA rY (bE dX (G.ext u.aF) (dB GS u (C83 _ _ _ (I.ext u.aF) bL) λ_ _ _ u=>u.fresh)))
def C145(p:Nat)(m:Mem)(w:World)(G:va w p m)(B:tO m):CR 145 [(.pointer (some ⟨p,0,none⟩))] w (λv w'=>lf (bF v m.kept) w w'):=by
 have zV:=G;obtain⟨ov,fv,lv,kv,pm,O,Y,V,I,M,hO,J2,Z,E,U⟩:=G;have W:=B.fl;have GI:=B.G5;have HC:=B.ll;have Ca:=B.kl;have J:=B.lb;have u:=St.start w;refine fb Tryz.func145 ?_;exact aD (aA AE (bE dX (I.ext u.aF) (dB GS u (C83 _ _ _ (E.ext u.aF) bL) λ_ _ _ u=>u.fresh)))
def C152(E:Value)(xs:List iw)(w:World)(G:cZ (λ_=>True) w E xs)(O:xs.length<=1000000):CR 152 [E] w (λv w'=>lf (bF v xs) w w'):=by
 have u:=St.start w;refine fb Tryz.func152 ?_;refine B5 Tryz.underlying224 (G.ext u.aF) (λp I=>aW (λB=>?_) λB=>?_)
 .have M:=I B;subst M;exact(u.eU (α:=iw)).fresh
 refine bD ([]:List iw) u xc rfl rfl (dQ rfl) (λU _ u=>?_);have J:=(G.ext u.aF);exact bJ u xc J (by simp;omega) dy (λ_ _ u=>u.fresh)
def C156(p:Nat)(ov fv:Value)(m:Mem)(F:Nat->Prop)(cell n:Int)(w:World)(hF:(gN p ov fv m).p w F)(O:∀w',gD F w w'->Bi ov fv m w')(E:tO m)(hb:MB m 1000000):CR 156 [(.pointer (some ⟨p,0,none⟩)),ir cell,ir n] w (λv w'=>v=ir (if G4 m cell=true then 0 else 1)/\mT F (gN p ov fv (fg m cell n)) w w'):=by
 have u:=St.begin hF;obtain⟨lv,kv,pm,u⟩:=gN.open u;have Ia:=E.fl;have GI:=E.G5;have HC:=E.ll;have Ca:=E.kl;have Jy:=E.lb;refine pj Tryz.func156 (pl:=av3) ?_;refine⟨λZ w'=>Z=.bool (decide (cell<0\/m.l.length<=cell))/\w=w',aN (aC (λ_=>⟨Oz bL,rfl⟩) λ_=>aD (aA rY (aB dX u.hb rfl (aI cQ u.p1.dS (cO ⟨yd bL,rfl⟩))))),?_⟩;rintro _ _ ⟨rfl,hw⟩ _;subst hw;refine aC (λV=>?_) (λV=>?_)
 .have u:=u.p3.p3.p3.p3;have G:G4 m cell=false:=by unfold G4;rw[decide_eq_false_iff_not];omega
  unfold fg;rw[G];exact⟨rfl,(gN.shut u).mut⟩
 have G:G4 m cell=true:=by unfold G4;rw[decide_eq_true_eq];omega
 refine aD (aA rY (aB dX u.hb rfl ?_));obtain⟨Td,F5⟩:=gx m.l (i:=cell.toNat) bL;refine dG u.p1 cQ bL bL (λ_ FM=>iM _ u.p1 bO FM bL λ_ u=>⟨λw'=>St w F [gN p ov fv (fg m cell n)] w',aD (aA uI (aB dX u.p1.hb rfl (aI cQ (O _ u.aF).1 (aN (aC (λY=>?_) λY=>?_))))),?_⟩)
 .refine aD (aA uI (aB dX u.p1.hb rfl ?_));obtain⟨I,M⟩:=gx m.of (i:=cell.toNat) bL;refine aK cQ (O _ u.aF).1 bL M (λ_ wm=>aE bO wm (aD (aA nA (have u:=u.drew;aB tF u.p1.hb rfl (aD (aA nA (aB tF u.p1.hb rfl ?_)))))));have U:=hb I;obtain⟨J,u⟩:=u.p3.Fg (k:=I);refine⟨_,u.p1.Cg Tryz.underlying185 EA yh,?_⟩;refine pop (O5 _ _) (bD ([(⟨cell,n⟩:iw)]) u xc rfl rfl (dQ rfl) λW _ u=>?_);refine⟨aH tF (u.p4.hb.cell rfl),?_⟩;refine⟨aH tF (u.p4.hb.cell rfl),?_⟩
  refine⟨u.p2.Cg Tryz.underlying185 EA yh,?_⟩;have Px:=u.dS;refine bJ u.p1 xc Px (by simp;omega) dy (λapP _ u=>?_);have u:=u.p1.drop;refine⟨aH tF (u.p3.hb.cell rfl),?_⟩;obtain⟨F6,rfl⟩:=u.fK;have u:=u.p1.p1;refine CZ u Tryz.underlying185 EA (λ_ u=>?_);have u:=u.p3.p2.p3;have B:fg m cell n={m with l:=m.l.set cell.toNat n,fj:=oX m.fj I (m.fj I++[⟨cell,n⟩])}:=by unfold fg;rw[ej G,ej bL,oi,M];rfl
  rw[B];exact gN.shut (m:={m with l:=_,fj:=_}) u
 .have u:=u.p3.p3.p2.p3;have B:fg m cell n={m with l:=m.l.set cell.toNat n}:=by unfold fg;rw[ej G,ei bL]
  rw[B];exact gN.shut (m:={m with l:=_,fj:=_}) u
 intro _ u _;exact⟨by rw[G];rfl,u.mut⟩
def Te(m:Mem)(cut:List Int):Bool:=decide ((cut.length:Int)=fP m.of)&&(tg cut.length).all λi=>decide (0<=cut.getD i 0/\cut.getD i 0<=(m.fj i).length)
def nn(m:Mem)(cut:List Int)(k:Nat):List Int:=(tg k).foldl (λo (i:Nat)=>nN o ((m.fj i).take (cut.getD i 0).toNat)) m.kept
def fh(m:Mem)(cut:List Int):Option (List Int):=if Te m cut=true then some (nn m cut cut.length)else none
theorem vc(m:Mem)(cut:List Int)(k:Nat):nn m cut (k+1)=nN (nn m cut k) ((m.fj k).take (cut.getD k 0).toNat):=by
 unfold nn;rw[Ju,List.foldl_append];rfl
theorem lS(m:Mem)(cut:List Int):∀k,(nn m cut k).length=m.kept.length
 | 0=>rfl
 | k+1=>by rw[vc,xG,lS]
def Nb{m:Mem}{cut:List Int}{k:Nat}{c:Int}(hc:cut[k]?=some c)(h:¬ (0<=c/\c<=(m.fj k).length)):fh m cut=none:=by
 unfold fh;grind[Te,nn]
def Nc{m:Mem}{cut:List Int}(h:(cut.length:Int)≠fP m.of):fh m cut=none:=by
 unfold fh Te;grind
def vd{m:Mem}{cut:List Int}(h:(cut.length:Int)=fP m.of)(hc:∀(k:Nat) (c:Int),k<cut.length->cut[k]?=some c->0<=c/\c<=(m.fj k).length):fh m cut=some (nn m cut cut.length):=by
 unfold fh;grind[Te,nn]
def U6:List Nat->List Int->Option (List Int)
 | p::ps,c::cs=>match U6 ps cs with
  | some cs'=>some (c::cs')
  | none=>if c<p then some ((c+1)::oz cs.length 0)else none
 | _,_=>none
theorem ZL:∀{ps:List Nat}{cs:List Int}{i:Nat}{p:Nat}{c:Int},ps[i]?=some p->cs[i]?=some c->U6 (ps.drop (i+1)) (cs.drop (i+1))=none->c<p->
  U6 ps cs=some (cs.take i++(c+1)::oz (cs.length-(i+1)) 0)
 | B::ps,c'::cs,0,p,c,u,hc,hn,h=>by
  grind[U6]
 | B::ps,c'::cs,i+1,p,c,u,hc,hn,h=>by
  rw[Dp]at u hc
  have:=ZL u hc hn h
  simp[U6,this]
 | [],_,_,_,_,u,_,_,_=>by simp at u
 | _::_,[],_,_,_,_,hc,_,_=>by simp at hc
theorem ZM:∀{ps:List Nat}{cs:List Int}{i:Nat}{p:Nat}{c:Int},ps[i]?=some p->cs[i]?=some c->U6 (ps.drop (i+1)) (cs.drop (i+1))=none->¬ c<p->U6 (ps.drop i) (cs.drop i)=none
 | B::ps,c'::cs,0,p,c,u,hc,hn,h=>by
  grind[U6]
 | B::ps,c'::cs,i+1,p,c,u,hc,hn,h=>by
  rw[Dp]at u hc
  have:=ZM u hc hn h
  grind
 | [],_,_,_,_,u,_,_,_=>by simp at u
 | _::_,[],_,_,_,_,hc,_,_=>by simp at hc
def za(m:Mem)(n:Nat):List Nat:=(tg n).map fun (i:Nat)=>(m.fj i).length
theorem ve{m:Mem}{n i:Nat}(h:i<n):(za m n)[i]?=some (m.fj i).length:=by
 unfold za;rw[o6,Jv h];rfl
def ZN(m:Mem)(cut:List Int):Option (List Int):=U6 (za m cut.length) cut
def mF(m:Mem)(u:List Int):Mem:={m with kept:=u,l:=u++m.ef.drop u.length,fj:=λ_=>[]}
def Bj{cs:List Int}{t:Nat}{x:Int}(h:t<cs.length):(cs.take (t+1)++oz (cs.length-(t+1)) 0).set t x=cs.take t++x::oz (cs.length-(t+1)) (0:Int):=by
 have e:cs.take (t+1)=cs.take t++[cs[t]]:=by simp_all
 rw[e,n4,List.set_append_right _ _ cD,l9,GF (Nat.le_of_lt h),Nat.sub_self]
 rfl
def ZO{cs:List Int}{t:Nat}(h:t<cs.length):cs.take t++0::oz (cs.length-(t+1)) (0:Int)=cs.take t++oz (cs.length-t) 0:=by
 rw[show cs.length-t=(cs.length-(t+1))+1 from bL,List.replicate_succ]
def C157(p:Nat)(ov fv:Value)(m:Mem)(F:Nat->Prop)(line:Int)(w:World)(hF:(gN p ov fv m).p w F)(Z:∀w',gD F w w'->Bi ov fv m w')(B:tO m)(hb:MB m 1000000):CR 157 [(.pointer (some ⟨p,0,none⟩)),ir line] w (λv w'=>v=ir (if F4 m line=true then 0 else 1)/\mT F (gN p ov fv (n7 m line)) w w'):=by
 have u:=St.begin hF;obtain⟨lv,kv,pm,u⟩:=gN.open u;have Ia:=B.fl;have GI:=B.G5;have HC:=B.ll;have Ca:=B.kl;have Jy:=B.lb;refine pj Tryz.func157 (pl:=av4) ?_;refine⟨λV w'=>V=.bool (decide (line<0\/fP m.of<=line))/\St w F [bX p [ov,fv,lv,kv,.map (some pm)],bF lv m.l,bF kv m.kept,pq pm m.fj] w',aN (aC (λ_=>⟨vb (by first|exact(ew bL).symm|exact fN.2 bL),u⟩) λ_=>aV WT u (C148 _ m _ (va.mk' u.hb (Z _ u.aF) u.p1.dS u.p2.dS u.p3.Ya) B) λ_ _ u=>cO ⟨vb (by first|exact(ew bL).symm|exact fN.2 bL),u⟩),?_⟩
 rintro _ _ ⟨rfl,u⟩ _;refine aC (λja=>?_) (λja=>?_)
 .have u:=u.p3.p3.p3.p3;have G:F4 m line=false:=by unfold F4;rw[decide_eq_false_iff_not];omega
  unfold n7;rw[G];exact⟨rfl,(gN.shut u).mut⟩
 refine aD (aA nA (aB tF u.hb rfl ?_));obtain⟨O,u⟩:=u.p3.Fg (k:=line);refine⟨_,u.p1.Cg Tryz.underlying185 EA yh,?_⟩;have GZ:=hb line;refine aI xc u.dS ?_;have u:=u.p3.p3.p4.p4.p4;refine⟨λJ x Y=>∃k:Nat,x=ir (k:Int)/\J=(m.fj line).length-k/\k<=(m.fj line).length/\St w F [bF (jr O) (m.fj line),Md pm m.fj line O,bF kv (nN m.kept ((m.fj line).take k)),bX p [ov,fv,lv,kv,.map (some pm)],bF lv m.l] Y,⟨_,0,rfl,rfl,l2 _,u⟩,?_⟩;rintro J _ _ ⟨k,rfl,rfl,uR,u⟩ _;refine aN (aC (λU=>?_) λU=>?_)
 .obtain⟨E,I⟩:=gx (m.fj line) (i:=(k:Int).toNat) bL;refine dG u xc bL bL (λ_ xj=>?_);have W:=B.pc line _ (kO I);refine fM u Sc xj I (aQ u Sd λM _ u=>aM (x:=E) u Sc rfl rfl λ_ u=>aD (aA AE (have u:=u.drew;aB dX u.p4.hb rfl (aA LG ?_))));have V9:=xG ((m.fj line).take k) m.kept;refine aB (v:=ir E.cell) bO u.hb rfl (aA LH (aB (v:=ir E.n) bO u.hb rfl ?_));obtain⟨u9,o0⟩:=gx (nN m.kept ((m.fj line).take k)) (i:=E.cell.toNat) bL
  exact dG u.p3 cQ bL bL (λ_ u0=>iM _ u.p3 bO u0 bL λ_ u=>aJ bL (have u:=u.p1.drop.p4.p4.p2.p4.p4;⟨_,bL,k+1,rfl,rfl,bL,by rw[H9 (j:=k) I];exact u⟩))
 rw[la bL]at u;refine aD (aA nA (aB tF u.p3.hb rfl ?_));have u:=u.p1.p1.Yb;rw[UE]at u;refine Me u rfl Tryz.underlying185 EA (λ_ _ u=>?_);have u:=u.p1.p3.p3;have G:F4 m line=true:=by unfold F4;rw[decide_eq_true_eq];omega
 have Qv:n7 m line={m with kept:=nN m.kept (m.fj line),fj:=oX m.fj line []}:=by unfold n7;rw[ej G]
 rw[Qv,G];exact⟨rfl,(gN.shut (m:={m with kept:=_,fj:=_}) u).mut⟩
def C150(p:Nat)(m:Mem)(cut:List Int)(cv:Value)(w:World)(Z:va w p m)(E:tO m)(hb:MB m 1000000)(W:cZ (λ_=>True) w cv cut)(Nd:cut.length<=1000):CR 150 [(.pointer (some ⟨p,0,none⟩)),cv] w (λv w'=>(fh m cut=none/\v=.tuple #[.slice none 0 0,ir 1]/\Ext w w')\/∃kC o,fh m cut=some kC/\v=.tuple #[o,ir 0]/\lf (bF o kC) w w'):=by
 have zV:=Z;obtain⟨ov,fv,lv,kv,pm,c0,c1,c2,c3,c4,hO,J2,hL,hKp,hP⟩:=Z;have Ia:=E.fl;have GI:=E.G5;have HC:=E.ll;have Ca:=E.kl;have Jy:=E.lb;have u:=St.start w;refine fb Tryz.func150 ?_;refine aI cQ (W.ext u.aF) (aV WT u (C148 _ m _ (zV.ext u.aF) E) λM he u=>bW (aC (λ_=>.inl ⟨Nc bL,rfl,u.aF⟩) λjk=>dB Lh u (C145 _ m _ (zV.ext u.aF) E) λI _ cE u=>aI cQ (W.ext u.aF) ?_));refine⟨λG x M=>∃k:Nat,x=ir (k:Int)/\G=cut.length-k/\k<=cut.length/\(∀(i:Nat) (c:Int),i<k->cut[i]?=some c->0<=c/\c<=(m.fj i).length)/\St w aX [bF I (nn m cut k)] M,⟨_,0,rfl,rfl,l2 _,λ_ _ h=>absurd h bL,u⟩,?_⟩
 rintro G _ w3 ⟨k,rfl,rfl,uR,iv,u⟩ _;refine aN (aC (λkM=>?_) λ_=>.inr ⟨_,_,vd bL (λi c _ hc=>iv i c bL hc),rfl,by rw[show cut.length=k from bL];exact u.fresh⟩);obtain⟨B,O⟩:=gx cut (i:=(k:Int).toNat) bL;refine aK cQ W bL O (λ_ oV=>aE bO (oV.ext u.aF) ⟨λjv w'=>jv=.bool (decide (B<0\/(m.fj k).length<B))/\w3=w',aN (aC (λ_=>⟨Oz bL,rfl⟩) λ_=>aD (aA nA (bE tF (c4.ext u.aF) (Cf hP u.aF Tryz.underlying185 EA yh λ_ u0=>aI xc (u0.ext u.aF) (cL ⟨yd bL,rfl⟩))))),?_⟩)
 rintro _ _ ⟨rfl,hw⟩ _;subst hw;refine aC (λ_=>.inl ⟨Nb (k:=k) O bL,rfl,u.aF⟩) (λoT=>aD (aA nA (bE tF (c4.ext u.aF) (Cf hP u.aF Tryz.underlying185 EA yh λahr wq=>?_))));have hbk:=hb k;have Hu:((m.fj k).take B.toNat).length<=(m.fj k).length:=by rw[l9];omega
 refine kh xc (wq.ext u.aF) bL bL (λarw Qk=>?_);have JS:=Qk _ wq;refine aI xc (JS.ext u.aF) ?_;refine⟨λG x M=>∃j:Nat,x=ir (j:Int)/\G=((m.fj k).take B.toNat).length-j/\j<=((m.fj k).take B.toNat).length/\St w aX [bF I (nN (nn m cut k) (((m.fj k).take B.toNat).take j))] M,⟨_,0,rfl,rfl,l2 _,u⟩,?_⟩;rintro G _ _ ⟨j,rfl,rfl,hj,u⟩ _;refine aN (aC (λxA=>?_) λxA=>?_)
 .obtain⟨J,V⟩:=gx ((m.fj (k:Int)).take B.toNat) (i:=(j:Int).toNat) bL;refine aK xc JS bL V (λ_ Ft=>?_);have hpc:=E.pc k _ (List.mem_of_mem_take (kO V));refine aE Sc (Ft.ext u.aF) (aQ u Sd λU _ u=>aM (x:=J) u Sc rfl rfl λ_ u=>aA LG ?_);have V9:=xG (((m.fj k).take B.toNat).take j) (nn m cut k);have ZP:=lS m cut k;refine aB (v:=ir J.cell) bO u.hb rfl (aA LH (aB (v:=ir J.n) bO u.hb rfl ?_));obtain⟨Y,ayS⟩:=gx (nN (nn m cut k) (((m.fj k).take B.toNat).take j)) (i:=J.cell.toNat) bL
  exact dG u.p1 cQ bL bL (λ_ Nf=>iM _ u.p1 bO Nf bL λ_ u=>aJ bL (have u:=u.p1.drop;⟨_,bL,j+1,rfl,rfl,bL,by rw[H9 (j:=j) V];exact u⟩))
 rw[la (i:=j) bL]at u;refine aJ bL ⟨_,bL,k+1,rfl,rfl,bL,λi c hi hc=>?_,?_⟩
 .by_cases e:i=k
  .subst e;obtain rfl:=ob.inj (hc.symm.trans O);omega
  exact iv i c bL hc
 rw[vc,oi,show cut[k]?=some B from O];exact u
def C149(p:Nat)(m:Mem)(cut:List Int)(cv:Value)(w:World)(W:va w p m)(hk:tO m)(hb:MB m 1000000)(Z:cZ (λ_=>True) w cv cut)(Nd:cut.length<=1000)(ye:∀c∈cut,0<=c):CR 149 [(.pointer (some ⟨p,0,none⟩)),cv] w (λv w'=>(ZN m cut=none/\v=.tuple #[.slice none 0 0,.bool false]/\Ext w w')\/∃c o,ZN m cut=some c/\v=.tuple #[o,.bool true]/\lf (bF o c) w w'):=by
 have zV:=W;obtain⟨ov,fv,lv,kv,pm,c0,c1,c2,c3,c4,hO,J2,hL,hKp,hP⟩:=W;have u:=St.start w;refine acG _ _ _ _ ?_;unfold S149;refine dB GS u (C83 _ _ _ (Z.ext u.aF) bL) (λx9 Y cE u=>?_);have O:cut.length=cut.length:=rfl;refine aI cQ u.dS (fc bL ?_);refine⟨λmm x Y=>∃t:Nat,x=ir ((t:Int)-1)/\mm=t/\t<=cut.length/\U6 ((za m cut.length).drop t) (cut.drop t)=none/\St w aX [bF x9 (cut.take t++oz (cut.length-t) 0)] Y,⟨_,cut.length,rfl,rfl,sl _,by rw[u6 (sl _)];cases (za m cut.length).drop cut.length<;>rfl,by simpa using u⟩,?_⟩
 rintro t _ _ ⟨_,rfl,rfl,ht,G,u⟩ _;refine cO (aC (λja=>?_) λ_=>.inl ⟨by unfold ZN;rw[show t=0 from bL]at G;simpa using G,rfl,u.drop.aF⟩);have O:(cut.take t++oz (cut.length-t) 0).length=cut.length:=by rw[l0,l9,yz];omega
 obtain⟨J,M⟩:=gx (cut.take t++oz (cut.length-t) 0) (i:=((t:Int)-1).toNat) bL;refine dG u cQ bL bL (λ_ j8=>?_);have u:=u.drew
 have U:cut[t-1]?=some J:=by
  have:=M;rw[show((t:Int)-1).toNat=t-1 from bL,List.getElem?_append_left (by rw[l9];omega),KF,ej bL]at this;exact this
 have hx0:=ye _ (kO U);have he:=rfl (a:=J);refine fM u bO j8 M (aD (aA nA (bE tF (c4.ext u.aF) (Cf hP u.aF Tryz.underlying185 EA yh λV uP=>aI xc (uP.ext u.aF) (aN (aC (λFV=>?_) λFV=>?_))))))
 .refine dG u cQ bL bL (λ_ qA=>fM u bO qA M ?_);have I:=hb ((t:Int)-1);refine aJ bL (dG u cQ bL bL λ_ u0=>iM _ u bO u0 bL λ_ u=>?_);refine .inr ⟨_,_,ZL (i:=t-1) (ve bL) U (by rw[show t-1+1=t from bL];exact G) (by rw[show((t-1:Nat):Int)=(t:Int)-1 from bL];omega),rfl,?_⟩;rw[he,show((t:Int)-1).toNat=t-1 from bL]at u;have B:=Bj (cs:=cut) (t:=t-1) (x:=J+1) bL;rw[show t-1+1=t from bL]at B |-;rw[B]at u;exact u.fresh
 have I:=hb ((t:Int)-1);refine dG u cQ bL bL (λ_ wm=>iM _ u bO wm bL λ_ u=>fc bL ?_);refine⟨_,bL,t-1,by congr 1;omega,rfl,bL,ZM (i:=t-1) (ve bL) U (by rw[show t-1+1=t from bL];exact G) (by rw[show((t-1:Nat):Int)=(t:Int)-1 from bL];omega),?_⟩;rw[show((t:Int)-1).toNat=t-1 from bL]at u;have B:=Bj (cs:=cut) (t:=t-1) (x:=0) bL;rw[show t-1+1=t from bL]at B;rw[B]at u;have E:=ZO (cs:=cut) (t:=t-1) bL;rw[show t-1+1=t from bL]at E;rw[E]at u
 exact u
def C86(p:Nat)(ov fv:Value)(m:Mem)(F:Nat->Prop)(cut:List Int)(cv:Value)(w:World)(hF:(gN p ov fv m).p w F)(W:∀w',gD F w w'->Bi ov fv m w')(E:tO m)(hb:MB m 1000000)(Y:∀w',gD F w w'->cZ (λ_=>True) w' cv cut)(Nd:cut.length<=1000):CR 86 [(.pointer (some ⟨p,0,none⟩)),cv] w (λv w'=>(fh m cut=none/\v=ir 1/\mT F (gN p ov fv m) w w')\/∃U,fh m cut=some U/\v=ir 0/\mT F (gN p ov fv (mF m U)) w w'):=by
 have u:=St.begin hF;obtain⟨lv,kv,pm,u⟩:=gN.open u;have Ia:=E.fl;have GI:=E.G5;have HC:=E.ll;have V:=E.kl;have Jy:=E.lb;refine pj Tryz.func86 (pl:=P86) ?_;refine dR agl (C150 _ m cut _ _ (va.mk' u.hb (W _ u.aF) u.p1.dS u.p2.dS u.p3.Ya) E hb (Y _ u.aF) bL) ?_;rintro J _ M
 rcases M with⟨B,rfl,Z⟩|⟨O,G,B,rfl,cE⟩
 .have u:=u.ext Z;exact aO rfl (aO rfl (bW (qf dy (have u:=u.p3.p3.p3.p3;.inl ⟨B,rfl,(gN.shut u).mut⟩))))
 have u:=u.made cE;refine aO rfl (aO rfl (bW (eO dy (aD (aA AE (aR u.p1 dX (dQ rfl) u.dS.one λ_ u=>aD (aA rY (have u:=u.drew;aB dX u.hb rfl (aD (aA LB (aB dX u.hb rfl ?_)))))))))));refine Mf u.p2 cQ (W _ u.aF).2 bL (λ_ u=>aD (aA rY (aB dX u.p1.hb rfl (Mf u cQ u.p2.dS (by rw[l0,sJ];have ZP:O.length=m.of.length:=(by unfold fh at B;split at B<;>simp at B;rw[<- B,lS];exact V);omega) λ_ u=>oY (α:=iw) u λI _ u=>aD (aA nA (aR u.p2 tF (dQ rfl) (rfl) λ_ u=>?_))))))
 have u:=u.p4.drop.p4.drop.p1.p3.p3.p3;have ZP:O.length=m.of.length:=by unfold fh at B;split at B<;>simp at B;rw[<- B,lS];exact V
 rw[show m.l.drop m.ef.length=[]from u6 bL,qb]at u;exact .inr ⟨_,B,rfl,(gN.shut (m:=mF m O) u).mut⟩
def J4(of:List Int)(stays:Int)(ef:List Int):Mem:=⟨of.take stays.toNat,ef,ef,ef.take stays.toNat,λ_=>[]⟩
def dA:List Nat->List (List Int)
 | []=>[[]]
 | p::ps=>(tg (p+1)).flatMap fun (i:Nat)=>(dA ps).map λt=>(i:Int)::t
theorem vK:∀ps,(dA ps).head? = some (oz ps.length 0)
 | []=>rfl
 | p::ps=>by
  have u:=vK ps
  rw[dA,List.range_succ_eq_map,P5]
  cases h:dA ps with
  | nil=>grind
  | cons t ts=>
   grind
theorem oy:∀{ps:List Nat}{c:List Int},c∈dA ps->c.length=ps.length
 | [],c,h=>by simp[dA]at h;grind
 | p::ps,c,h=>by
  simp only[dA,Qa,o1]at h
  obtain⟨i,_,t,ht,rfl⟩:=h
  simp[oy ht]
theorem yv:∀{ps:List Nat}{c:List Int}{i p:Nat}{n:Int},c∈dA ps->ps[i]?=some p->c[i]?=some n->0<=n/\n<=p
 | [],c,i,p,n,h,u,_=>by simp at u
 | q::ps,c,i,p,n,h,u,hc=>by
  simp only[dA,Qa,o1,List.mem_range]at h
  obtain⟨j,B,t,ht,rfl⟩:=h
  cases i with
  | zero=>grind
  | succ i=>
   rw[Dp]at u hc
   exact yv ht u hc
theorem uh{α β:Type}{f:α->List β}:∀{l:List α}{d:List β}{c:β}{r:List β},l.flatMap f=d++c::r->∃G x B E u,l=G++x::B/\f x=E++c::u/\r=u++B.flatMap f
 | [],d,c,r,h=>by simp at h
 | x::l,d,c,r,h=>by
  rw[P5]at h
  rcases List.append_eq_append_iff.1 h with⟨U,h1,h2⟩|⟨J,h1,h2⟩
  .obtain⟨G,y,B,E,u,I,O,M⟩:=uh h2
   grind
  .cases J with
   | nil=>
    obtain⟨G,y,B,E,u,I,O,M⟩:=uh (f:=f) (l:=l) (d:=[]) (c:=c) (r:=r) cD
    grind
   | cons y ys=>
    simp at h2
    exact⟨[],x,l,d,ys,rfl,cD,h2.2⟩
def Ng{n:Nat}{u B:List Nat}{x:Nat}(h:tg n=u++x::B):x<n/\B.head? = if x+1<n then some (x+1)else none:=by
 have I:(tg n)[u.length]?=some x:=cD
 have G:u.length<n:=cD
 have E:x=u.length:=cD
 refine⟨bL,?_⟩
 have h2:(tg n)[u.length+1]?=B.head?:=by
  rw[h,List.getElem?_append_right bL,show u.length+1-u.length=1 from bL,Dp]
  cases B<;>rfl
 grind
theorem Tf:∀{ps:List Nat}{d:List (List Int)}{c:List Int}{r:List (List Int)},dA ps=d++c::r->U6 ps c=r.head?
 | [],d,c,r,h=>by
  simp[dA]at h
  cases d with
  | nil=>grind[U6]
  | cons x d=>simp at h
 | p::ps,d,c,r,h=>by
  rw[dA]at h
  obtain⟨l1,x,E,Z,V,G,U,M⟩:=uh h
  obtain⟨Y,u⟩:=Ng G
  obtain⟨a,b,O,hb,hc⟩:=List.map_eq_append_iff.1 U
  obtain⟨t,ts,rfl,J,B⟩:=List.map_eq_cons_iff.1 hc
  subst J
  have I:=Tf O
  rw[M,<- B]
  show(match U6 ps t with|some cs'=>some ((x:Int)::cs')|none=>if (x:Int)<p then some (((x:Int)+1)::oz t.length 0)else none)=_
  rw[I]
  cases ts with
  | cons t' ts=>rfl
  | nil=>
   simp only[List.head?_nil,aa7,List.nil_append]
   cases E with
   | nil=>
    simp_all
   | cons y E=>
    simp only[List.head?_cons]at u
    split at u
    .obtain rfl:=ob.inj u
     rw[ej bL,P5]
     have W:t.length=ps.length:=oy (ps:=ps) cD
     have hh:=vK ps
     simp_all
    grind
def Cy(f:List Int->List Int)(l:List (List Int)):List (List Int)×List (List Int):=l.foldl (λs c=>if f c∈s.2 then s else(s.1++[c],s.2++[f c])) ([],[])
theorem sK(f:List Int->List Int)(l:List (List Int))(c:List Int):Cy f (l++[c])=if f c∈(Cy f l).2 then Cy f l else((Cy f l).1++[c],(Cy f l).2++[f c]):=by
 unfold Cy;grind
theorem Nh(f:List Int->List Int):∀(l:List (List Int)) (s:List (List Int)×List (List Int)),(l.foldl (λs c=>if f c∈s.2 then s else(s.1++[c],s.2++[f c])) s).1.length<=s.1.length+l.length
 | [],s=>sl _
 | c::l,s=>by
  rw[List.foldl_cons]
  refine vJ (Nh f l _) ?_
  grind
def Bl(f:List Int->List Int)(l:List (List Int)):(Cy f l).1.length<=l.length:=by
 have h:(Cy f l).1.length<=([]:List (List Int)).length+l.length:=Nh f l ([],[])
 grind
def Qw(xs:List Int):List Int:=xs++oz (20-xs.length) 0
def sL(m:Mem)(c:List Int):List Int:=Qw (nn m c c.length)
def ry(m:Mem):List Nat:=za m (fP m.of).toNat
def tP(m:Mem):List (List Int):=(Cy (sL m) (dA (ry m))).1
theorem vL(m:Mem):(ry m).length=(fP m.of).toNat:=by unfold ry za;simp
def kT{m:Mem}(u:tO m):0<=fP m.of:=by
 unfold fP;split
 .omega
 rename_i h
 have B:m.of.getD (m.of.length-1) 0∈m.of:=cD
 have:=(u.ofr _ B).1
 omega
def akl{m:Mem}(E:tO m){c:List Int}(h:c∈dA (ry m)):(c.length:Int)=fP m.of/\fh m c=some (nn m c c.length)/\(∀n∈c,0<=n):=by
 have B:=oy h
 rw[vL]at B
 have u:=kT E
 have hb:∀(k:Nat) (n:Int),k<c.length->c[k]?=some n->0<=n/\n<=(m.fj k).length:=λk n G hc=>by
  have:=yv h (i:=k) (p:=(m.fj k).length) (by unfold ry;exact ve bL) hc
  exact this
 refine⟨bL,vd bL hb,λn u=>?_⟩
 obtain⟨i,hi,rfl⟩:=List.getElem_of_mem u
 exact(hb i _ hi (lU hi)).1
theorem Ni{m:Mem}{d:List (List Int)}{c:List Int}{r:List (List Int)}(h:dA (ry m)=d++c::r):ZN m c=r.head?:=by
 have u:c.length=(ry m).length:=oy cD
 rw[vL]at u
 unfold ZN
 rw[u];exact Tf h
def aeL(v:Value):List (List Int)->HP
 | []=>emp
 | c::_=>bF v c
def aeL.nil{w w0:World}{A:Nat->Prop}{L:List HP}{v:Value}(u:St w0 A L w):St w0 A (aeL v []::L) w:=u.new (Ext.refl w) (H:=emp) (F:=aX) (λ_ h=>h) λ_ h=>h.elim
theorem Ib(ps:List Nat):dA ps=oz ps.length 0::(dA ps).tail:=by
 have:=vK ps
 cases h:dA ps with
 | nil=>grind
 | cons x xs=>grind
def Qx:Mh hH 20 223 3:=⟨Tryz.underlying223,EA,(jY bO).2⟩
def C53(of ef:List Int)(stays:Int)(av bv:Value)(w:World)(E:cZ (λ_=>True) w av of)(I:cZ (λ_=>True) w bv ef)(hlen:of.length=ef.length)(Ia:of.length<=20)(ie:0<=stays/\stays<=of.length)(GJ:∀(k:Nat) (n:Int),(k:Int)<stays->of[k]?=some n->(n=tM of k\/(0<k/\n=tM of k-1))/\-10<=n/\n<=100):CR 53 [av,ir stays,bv] w (λv w'=>∃(p:Nat) (ov fv:SV),v=.tuple #[.pointer (some ⟨p,0,none⟩),ir 0]/\lf (sep (bF (jr ov) (of.take stays.toNat)) (sep (bF (jr fv) ef) (gN p (jr ov) (jr fv) (J4 of stays ef)))) w w'):=by
 have u:=St.start w;refine fb Tryz.func53 ?_;refine⟨λU w'=>U=.bool (decide (of.length≠ef.length\/20<of.length\/stays<0\/of.length<stays))/\w=w',aI cQ (E.ext u.aF) (aI cQ (I.ext u.aF) (bW (aC (λ_=>⟨Oz bL,rfl⟩) λ_=>aI cQ (E.ext u.aF) (cL (aC (λ_=>⟨Oz bL,rfl⟩) λ_=>aN (aC (λ_=>⟨Oz bL,rfl⟩) λ_=>aI cQ (E.ext u.aF) (cL ⟨yd bL,rfl⟩))))))),?_⟩;rintro _ w1 ⟨rfl,hw⟩ _;subst hw;refine aC (λl8=>absurd l8 bL) (λl8=>kh cQ (E.ext u.aF) bL bL λV akm=>?_);have ZR:=akm _ E
 refine aI cQ (ZR.ext u.aF) ?_;refine⟨λmm l x w1=>∃(k:Nat) (last:Int),l=ir last/\x=ir (k:Int)/\mm=(of.take stays.toNat).length-k/\k<=(of.take stays.toNat).length/\last=tM of k-1/\-200<=last/\last<=200/\St w aX [] w1,⟨_,0,-1,rfl,rfl,rfl,l2 _,rfl,bL,bL,u⟩,?_⟩;rintro mm _ _ w2 ⟨k,last,rfl,rfl,rfl,uR,hlast,hl7,hl8,u⟩ _;have Hu:(of.take stays.toNat).length=stays.toNat:=by rw[l9];omega
 refine aN (aC (λoT=>?_) λoT=>?_)
 .obtain⟨G,vM⟩:=gx (of.take stays.toNat) (i:=(k:Int).toNat) bL;refine aK cQ ZR bL vM (λ_ xt=>?_)
  have B:of[k]?=some G:=by
   have J:=vM;rw[KF]at J
   split at J
   .exact J
   .cases J
  obtain⟨hl1,Df,hl3⟩:=GJ k _ bL B;refine aE bO (xt.ext u.aF) ⟨λU w'=>U=.bool (decide (G≠last+1/\(k=0\/G≠last)))/\w2=w',aJ bL (bW (aC (λ_=>aG (aC (λ_=>⟨Oz bL,rfl⟩) λ_=>bW ⟨yd bL,rfl⟩)) λ_=>⟨Uf bL,rfl⟩)),?_⟩;rintro _ _ ⟨rfl,hw⟩ _;subst hw;refine aC (λCY=>absurd CY (by have:=GJ k G bL B;simp;omega)) (λCY=>?_);have hws:tM of (k+1)=G+1:=by unfold tM;rw[ei bL,Nat.add_sub_cancel,oi,B];rfl
  exact aJ bL ⟨_,bL,k+1,G,rfl,rfl,rfl,bL,bL,bL,bL,u⟩
 refine kh cQ (E.ext u.aF) bL bL (λarT ako=>?_);have M:=ako _ E;refine dB GS u (C83 _ _ _ (M.ext u.aF) (by first|omega|(rw[l9];omega))) (λx59 _ cE u=>dB GS u (C83 _ _ _ (I.ext u.aF) (by first|omega|(rw[l9];omega))) λx61 _ cE u=>dB GS u (C83 _ _ _ (I.ext u.aF) (by first|omega|(rw[l9];omega))) λx63 _ cE u=>oY (α:=iw) u λb_x64 _ u=>?_);obtain⟨W,rfl⟩:=u.p3.fK;obtain⟨Z,rfl⟩:=u.p2.fK;obtain⟨ayT,rfl⟩:=u.p1.fK;refine pop (EG _ _ _ _ _ _ _ _ _ _) (jZ u λO _ u=>kh cQ (I.ext u.aF) bL bL λahF aks=>?_)
 have Y:=aks _ I;exact dB GS u (C83 _ _ _ (Y.ext u.aF) (by first|omega|(rw[l9];omega))) (λ_ _ _ u=>aD (aA AE (aR u.p1 dX (dQ rfl) u.dS.one λ_ u=>have u:=gN.shut (m:=J4 of stays ef) u.p4.p5.p4.p4.p5.p5;⟨O,W,Z,rfl,(St.join (St.join u.p2).p1).fresh⟩)))
def C82(p:Nat)(m:Mem)(ov fv:SV)(w:World)(M:Cell w p 0 (jr ov))(O:Cell w p 1 (jr fv))(hm:va w p m)(I:tO m)(hb:MB m 1000000):CR 82 [(.pointer (some ⟨p,0,none⟩))] w (λv w'=>∃b,v=.pointer (some ⟨b,0,none⟩)/\lf (gN b (jr ov) (jr fv) m) w w'):=by
 have W:=hm;obtain⟨ov2,fv2,lv,kv,pm,_,_,c2,c3,c4,hO,J2,hL,hKp,hP⟩:=hm;obtain⟨es,clock,HD,ie,hkv,KK⟩:=hP.es;have Ia:=I.fl;have GI:=I.G5;have HC:=I.ll;have Ca:=I.kl;have Jy:=I.lb;have u:=St.start w;refine pj Tryz.func82 (pl:=P82) ?_;refine⟨λc3 w'=>∃b E G B,c3=.pointer (some ⟨b,0,none⟩)/\St w aX [bX b [jr ov,jr fv,E,G,.map (some B)],bF E m.l,bF G m.kept,pq B λ_=>([]:List iw)] w',aD (aA uI (have u:=u.drew;bE dX (M.ext u.aF) (aD (aA LB (bE dX (O.ext u.aF) ⟨dB WR u (C144 _ m _ (W.ext u.aF) I) (λx15 w1 Z u=>⟨aH dX (M.ext u.aF),⟨aH dX (O.ext u.aF),⟨?_,⟨?_,?_⟩⟩⟩⟩),⟨?_,?_⟩⟩))))),?_⟩
 .refine dB Lh u (C145 _ m _ (W.ext u.aF) I) (λx17 _ Z u=>?_);refine⟨aH dX (M.ext u.aF),?_⟩;refine⟨aH dX (O.ext u.aF),?_⟩;refine oY (α:=iw) u (λXE _ u=>?_);refine⟨aH dX (M.ext u.aF),?_⟩;refine⟨aH dX (O.ext u.aF),?_⟩;obtain⟨aku,rfl⟩:=u.p2.fK;obtain⟨YY,rfl⟩:=u.p1.fK;exact pop (pH _ _ _ _ _ _ _ _ _ _ _ _ _) (jZ u λ_ _ u=>have u:=u.p1.p2.p3.p3;⟨_,_,_,_,rfl,u⟩)
 .refine oY (α:=iw) u (λauE _ u=>?_);refine⟨aH dX (M.ext u.aF),?_⟩;refine⟨aH dX (O.ext u.aF),?_⟩;refine dB Lh u (C145 _ m _ (W.ext u.aF) I) (λaq3 _ Z u=>?_);refine⟨aH dX (M.ext u.aF),?_⟩;refine⟨aH dX (O.ext u.aF),?_⟩;obtain⟨aku,rfl⟩:=u.p2.fK;obtain⟨MM,rfl⟩:=u.fK;exact pop (pH _ _ _ _ _ _ _ _ _ _ _ _ _) (jZ u λ_ _ u=>have u:=u.p2.p2.p3.p3;⟨_,_,_,_,rfl,u⟩)
 .trivial
 .refine oY (α:=iw) u (λauF _ u=>?_);refine⟨aH dX (M.ext u.aF),?_⟩;refine⟨aH dX (O.ext u.aF),?_⟩;refine dB WR u (C144 _ m _ (W.ext u.aF) I) (λx15_1 _ Z u=>?_);refine⟨aH dX (M.ext u.aF),?_⟩;refine⟨aH dX (O.ext u.aF),?_⟩;refine dB Lh u (C145 _ m _ (W.ext u.aF) I) (λaq4 _ Z u=>?_);refine⟨aH dX (M.ext u.aF),?_⟩;refine⟨aH dX (O.ext u.aF),?_⟩;obtain⟨arY,rfl⟩:=u.p1.fK;obtain⟨MN,rfl⟩:=u.fK;exact pop (pH _ _ _ _ _ _ _ _ _ _ _ _ _) (jZ u λ_ _ u=>have u:=u.p3.p2.p3.p3;⟨_,_,_,_,rfl,u⟩)
 .trivial
 rintro _ _ ⟨b,E,G,B,rfl,u⟩ _;refine aD (aA nA (bE tF (c4.ext u.aF) (HJ u Tryz.underlying185 (uS HD u.aF) λr25 _ u=>?_)));have u:=u.p4.p4.p4.p4.p4;refine⟨λmm w1=>∃(seen:Array Nat) (done:List Int),mm=(leftOf es seen).size/\(∀e∈es.toList,seen.contains e.born=true->∃k∈done,e.key=ir k)/\St w aX [Fi r25 pm clock seen,bX b [jr ov,jr fv,E,G,.map (some B)],bF E m.l,bF G m.kept,pq B λk=>if k∈done then m.fj k else []] w1,⟨_,#[],[],rfl,λ_ _ hc=>by simp at hc,by simpa using u⟩,?_⟩;rintro mm _ ⟨seen,done,rfl,Y,u⟩ _;refine Mg u (uS HD u.aF) ie.1 (λh0=>?_) (λe _ U u=>?_)
 .refine aO rfl (eR ?_);have u:=u.drop.p3.p3.p3.p3
  have hg:(λk=>if k∈done then m.fj k else [])=m.fj:=by
   funext k
   by_cases hd:k∈done
   .rw[ej hd]
   .rw[ei hd];refine(KK k λe U J=>hd ?_).symm;obtain⟨k2,uR,V⟩:=Y e U (all_seen es seen h0 e U);rw[J]at V;cases V;exact uR
  rw[hg]at u;exact⟨b,rfl,(gN.shut u).fresh⟩
 obtain⟨k,sk,J,hev,hrk⟩:=hkv e (mem_left U).1;refine aO rfl (gO (HK u (uS HD u.aF) (mem_left U).1 ie.2.1 ?_));rw[J,hev];refine aO rfl (aO rfl (aD (aA nA (have u:=u.drew;aB tF u.p1.hb rfl (dB anV u (C152 _ _ _ (hrk.ext u.aF) (hb k)) λx37 _ Z u=>?_)))));refine⟨aH tF (u.p2.hb.cell rfl),?_⟩;obtain⟨s_w17,u⟩:=u.p5.Fg (k:=k);have u:=u.drop;obtain⟨Qc,rfl⟩:=u.p1.fK;have u:=u.p1;refine CZ u Tryz.underlying185 EA (λ_ u=>have u:=u.p4.p4.p4.p4;⟨_,left_shrinks es seen e U,seen.push e.born,k::done,rfl,λe2 HX hc=>?_,?_⟩)
 .rcases sw hc with h|h
  .obtain⟨k2,h1,h2⟩:=Y e2 HX h;exact⟨k2,qa _ h1,h2⟩
  obtain rfl:=born_inj ie.2.1 HX (mem_left U).1 h;exact⟨k,o4,J⟩
 have hg:oX (λk=>if k∈done then m.fj k else []) k (m.fj k)=(λk'=>if k'∈k::done then m.fj k' else []):=by
  funext k';unfold oX
  by_cases e:k'=k
  .subst e;simp
  .simp[e]
 rw[hg]at u;exact u
def C79(p:Nat)(m:Mem)(w:World)(hm:va w p m)(B:tO m)(hb:MB m 1000000)(hC:(dA (ry m)).length<=1000000000):CR 79 [(.pointer (some ⟨p,0,none⟩))] w (λv w'=>lf (fy v (tP m)) w w'):=by
 have zV:=hm;obtain⟨ov,fv,lv,kv,pm,c0,c1,c2,c3,c4,hO,J2,hL,hKp,hP⟩:=hm;have Ia:=B.fl;have GI:=B.G5;have HC:=B.ll;have Ca:=B.kl;have Jy:=B.lb;have u:=St.start w;refine aiA _ _ _ ?_;unfold S79;refine Mj (n:=20) u (λI w1 u=>aV WT u (C148 _ m _ (zV.ext u.aF) B) λ_ he u=>?_);have hnn:=kT B;refine uD (0:Int) u cQ tB bL bL dy (λar0 _ u=>?_);have u:=(((u.EP (α:=List Int)).p1).p2).p2;refine⟨λmm W oG is6 w1=>∃(done rest:List (List Int)),dA (ry m)=done++rest/\is6=.bool (!rest.isEmpty)/\mm=rest.length/\St w aX [fy W (Cy (sL m) done).1,Pp I 20 (Cy (sL m) done).2,aeL oG rest] w1,⟨_,[],dA (ry m),rfl,by rw[Ib (ry m)];rfl,rfl,by rw[Ib (ry m),vL];exact u⟩,?_⟩
 rintro mm W oG _ _ ⟨done,rest,G,rfl,rfl,u⟩ _;refine aW (λZS=>?_) (λZS=>?_)
 .obtain⟨c,rest,rfl⟩:∃c r,rest=c::r:=by cases rest with|nil=>cases ZS|cons c r=>exact⟨c,r,rfl⟩
  change St w aX [fy W (Cy (sL m) done).1,Pp I 20 (Cy (sL m) done).2,bF oG c] _ at u
  have V:c∈dA (ry m):=by rw[G];simp
  have E:=akl B V;have Ag:=E.1;have DP:=Bl (sL m) done;have hdn:done.length<=(dA (ry m)).length:=by rw[G];simp
  have ZP:(nn m c c.length).length<=20:=by rw[lS];omega
  have O:(sL m c).length=20:=by unfold sL Qw;rw[l0,yz];omega
  refine⟨λo w'=>St w aX [fy o (Cy (sL m) (done++[c])).1,Pp I 20 (Cy (sL m) (done++[c])).2,bF oG c] w',?_,?_⟩
  .refine dR agl (C150 _ m c _ _ (zV.ext u.aF) B hb u.p2.dS bL) ?_;rintro v24 _ hh;obtain⟨kC,o24,hi,rfl,U⟩:=hh.resolve_left (λh=>by rw[E.2.1]at h;cases h.1);obtain rfl:kC=(nn m c c.length):=ob.inj (hi.symm.trans E.2.1);have u:=u.made U;refine aO rfl (aO rfl (aQ u ac7 λayU _ u=>UF Qx (Ml u cQ u.p1.dS ZP (by simp;omega) λ_ u=>have u:=u.enc (cs':=(sL m c).map (n3 .i64)) (by exact ajf (n:=20) ZP);uA agI u.hb (by rw[mW];exact O) (adP u.p3 Tryz.underlying220 Qx R5 O ?_))))
   first|refine Ew ?_|refine bN ?_
   refine aC (λM=>?_) (λM=>?_)
   .refine uA agI u.hb (by rw[mW];exact O) (adQ u.p3 Tryz.underlying220 Qx O M λ_ u=>dB GS u (C83 _ _ _ u.p4.dS bL) λx38 _ U u=>?_);obtain⟨ZT,rfl⟩:=u.fK;have u:=u.freeze.dH (Ψ:=λw=>n5 w ZT c) (λ_ h=>DL.ki h);refine ga (s:=ZT) (x:=c) u ld dy (λahw _ u=>have u:=u.p4;fU u ld (by simp;omega) dy λs_x40 _ u=>?_);have u:=u.p2.drop.p2.drop.p2.p2.p2;rw[sK,ei (by simpa using M)];exact u
   have u:=u.drop.drop.p2.p2.p2;rw[sK,ej (by simpa using M)];exact u
  rintro wO _ u _;refine dR anU (C149 _ m c _ _ (zV.ext u.aF) B hb u.p2.dS bL E.2.2) ?_;rintro Y _ Z
  rcases Z with⟨J,rfl,he⟩|⟨c2,o18,J,rfl,U⟩
  .have u:=u.ext he;refine aO rfl (aO rfl ?_);rw[Ni G]at J;have u:=u.p2.drop.p1.p1;obtain rfl:rest=[]:=by simpa using J
   exact⟨_,ee,done++[c],[],by rw[G];simp,rfl,rfl,(aeL.nil u).p2.p2⟩
  have u:=u.made U;refine aO rfl (aO rfl ?_);rw[Ni G]at J;have u:=u.p3.drop.p2.p2;obtain⟨r2,rfl⟩:∃r,rest=c2::r:=by cases rest with|nil=>cases J|cons y r=>exact⟨r,by simp at J;rw[J]⟩
  exact⟨_,ee,done++[c],c2::r2,by rw[G];simp,rfl,rfl,u⟩
 have u:=u.p1.drop.p1.drop;obtain rfl:rest=[]:=by cases rest with|nil=>rfl|cons c r=>cases ZS
 rw[qb]at G;unfold tP;rw[G];exact u.fresh
def aeO:List Int->Int->Int
 | [],n=>n
 | c::cs,n=>aeO cs (BM (BM (n*10000)+c))
def qF(l:List Int)(k:Nat):Int:=aeO (l.take k) 0
theorem Ic:∀(l:List Int) (c n:Int),aeO (l++[c]) n=BM (BM (aeO l n*10000)+c)
 | [],_,_=>rfl
 | x::l,c,n=>Ic l c _
theorem F7{l:List Int}{k:Nat}{c:Int}(h:l[k]?=some c):qF l (k+1)=BM (BM (qF l k*10000)+c):=by
 unfold qF;rw[v7,h];exact Ic _ _ _
def nd(p q:cS):Bool:=decide (q.kind=p.kind)&&decide (q.t=p.t)&&decide (q.i=p.i)&&decide (p.cut.length=0)
def pk3(s:SV):dC:=⟨3,0,0,s⟩
theorem Tg{w:World}{u:List SV}{cs:List (List Int)}(h:gd u cs w):gd (u.map pk3) (cs.map λc=>(⟨3,0,0,c⟩:cS)) w:=by
 refine⟨by simp[h.1],λi t x a b=>?_⟩
 rw[o6]at a b
 cases hs:u[i]? with
 | none=>rw[hs]at a;cases a
 | some s=>
  cases hc:cs[i]? with
  | none=>rw[hc]at b;cases b
  | some c=>
   rw[hs]at a;rw[hc]at b
   simp at a b;subst a b
   exact⟨s,rfl,h.2 i s c hs hc⟩
def C154(W fv:Value)(xs:List cS)(φ:cS->Prop)(g:cS->Bool)(w:World)(hL:DL w W xs)(Y:tI hH w fv φ g)(Z:∀x∈xs,φ x)(hn:xs.length<=1073741824):CR 154 [W,fv] w (λv w'=>v=ir (sg g xs)/\Ext w w'):=by
 obtain⟨g0,first,cap,rfl,ng,jW⟩:=Y;have u:=St.start w;refine fb Tryz.func154 ?_;obtain⟨U,E,B⟩:=hL.open;have J:=B.1;refine aI kB (E.ext u.aF) ?_;refine⟨λm x O=>∃k:Nat,x=ir (k:Int)/\m=xs.length-k/\k<=xs.length/\(∀y∈xs.take k,g y=false)/\St w aX [] O,⟨_,0,rfl,rfl,l2 _,ee,u⟩,?_⟩;rintro m _ O ⟨k,rfl,rfl,hk,G,u⟩ _;refine aN (aC (λjA=>?_) λ_=>⟨gL (n3 .i64) (jb (by rw[la bL]at G;exact G)).symm,u.aF⟩);obtain⟨il,V⟩:=gx U (i:=(k:Int).toNat) bL;obtain⟨yZ,I⟩:=gx xs (i:=(k:Int).toNat) bL
 obtain⟨U7,rfl,U8⟩:=B.2 _ _ _ V I;refine aK kB E bL V (λ_ gZ=>aE oB (gZ.ext u.aF) (gS ng (jW _ yZ O u.aF ⟨U7,rfl,(U8.ext u.aF)⟩ (Z _ (kO I))) ?_));rintro _ _ ⟨rfl,he⟩;have u:=u.ext he;exact aW (λM=>⟨gL (n3 .i64) (l6 G I M).symm,u.aF⟩) (λM=>aJ bL ⟨_,bL,k+1,rfl,rfl,bL,dY G I M,u⟩)
def C89(B fv:Value)(xs:List cS)(φ:cS->Prop)(g:cS->Bool)(w:World)(E:DL w B xs)(G:tI hH w fv φ g)(I:∀x∈xs,φ x)(J:xs.length<=1073741824):CR 89 [B,fv] w (λv w'=>v=.bool (xs.any g)/\Ext w w'):=by
 have u:=St.start w;refine fb Tryz.func89 ?_;exact aV anW u (C154 _ _ _ _ _ _ (E.ext u.aF) (G.ext u.aF) I bL) (λ_ _ u=>cO ⟨vb (kN _ _),u.aF⟩)
def jy(m:Mem)(c:Int):Int:=if G4 m c=true then m.l.getD c.toNat 0 else 0
def ahJ(p:Nat)(m:Mem)(c:Int)(w:World)(u:va w p m)(B:tO m):CR 227 [.pointer (some ⟨p,0,none⟩),ir c] w (λv w'=>v=.tuple #[ir (jy m c),ir (if G4 m c=true then 0 else 1)]/\Ext w w'):=C227 p m c w u B
def Ie(m:Mem)(c n:Int):(fg m c n).of=m.of:=by unfold fg;grind
def ui(m:Mem)(c n:Int):(fg m c n).ef=m.ef:=by unfold fg;grind
def aeP(m:Mem)(c:Int):(n7 m c).of=m.of:=by unfold n7;grind
def Nj(m:Mem)(c:Int):(n7 m c).ef=m.ef:=by unfold n7;grind
def Bi.write{ov fv:Value}{m:Mem}{w:World}{c n:Int}(h:Bi ov fv m w):Bi ov fv (fg m c n) w:=by grind[Bi,fg]
theorem Bi.out{ov fv:Value}{m:Mem}{w:World}{c:Int}(h:Bi ov fv m w):Bi ov fv (n7 m c) w:=by grind[Bi,n7]
def jM(m:Mem)(x:bH):Mem:=if x.kind=3 then fg m x.cell x.n else if x.kind=7 then m else n7 m x.line
def tj(t:Int)(x:bH):cA:=if x.kind=3 then⟨12,t,x.cell,x.n,0⟩else if x.kind=7 then⟨14,t,0,0,0⟩else⟨13,t,x.line,0,0⟩
end Go.Proofs.YtpdlpabnlkofmaaGreatDoor
namespace Go.Fw
def ke(F:Nat->Prop)(w0 w':World):Prop:=∀b,F b->w'.heap[b]?=w0.heap[b]?
section
variable {α σ:Type}[Flat σ] [D:Deep α σ] {w w0:World}{A F:Nat->Prop}{L:List HP}{v:Value}{xs:List α}{ts us:List σ}
theorem St.Th{Φ:hM}(B:St w0 A (Fw.eC Φ::L) w):∃F,St w0 A (Fw.eC (ke F w)::L) w/\∀w',ke F w w'->Φ w':=by
 obtain⟨U,F,E,u,I,G,M,J⟩:=B.tY
 exact⟨F,⟨B.aF,U,F,E,⟨λw' h=>h,u.2⟩,I,G,M,J⟩,λw' h=>u.1 w' h⟩
theorem ke.refl(F:Nat->Prop)(w:World):ke F w w:=λ_ _=>rfl
theorem Nk(B:∀x y:σ,kp x=kp y->x=y):∀{ts us:List σ},ts.length=us.length->flat ts=flat us->ts=us
 | [],[],_,_=>rfl
 | t::ts,u::us,hl,h=>by
  rw[jV,jV]at h
  have:=List.append_inj h (by rw[AQ,AQ])
  rw[B _ _ this.1,Nk B cD this.2]
 | [],_::_,hl,_=>by simp at hl
 | _::_,[],hl,_=>by simp at hl
theorem cZ.func{S W:Nat->Prop}(E:∀x y:σ,kp x=kp y->x=y)(h:cZ S w v ts)(V:cZ W w v us):ts=us:=by
 obtain⟨a,cap,rfl,hc,h3⟩:=h
 obtain⟨Z,Ez,I,BP,u⟩:=V
 simp only[Be.injEq]at I
 obtain⟨rfl,J,rfl⟩:=I
 refine Nk E J (List.ext_getElem? λj=>?_)
 have td:(flat ts).length=(flat us).length:=by rw[dI,dI,J]
 by_cases Y:j<(flat ts).length
 .have B:j<(flat us).length:=bL
  rcases h3 with⟨rfl,_⟩|⟨b,o,rfl,_,h5⟩
  .grind
  rcases u with⟨rfl,_⟩|⟨b',o',M,_,G⟩
  .grind
  simp only[ob.injEq,Addr.mk.injEq,and_true]at M
  obtain⟨rfl,rfl⟩:=M
  have U:=h5 j _ (lU Y)
  have O:=G j _ (lU B)
  unfold Cell at U O
  grind
 grind
theorem ke.rd(h:∀w',ke F w w'->DL w' v xs)(G:cZ (λ_=>True) w v ts)(hn:ts.length=xs.length):∀w',ke F w w'->cZ (λ_=>True) w' v ts:=by
 intro w' W
 have Dg:=G
 obtain⟨a,cap,rfl,hc,h3⟩:=G
 rcases h3 with⟨h3,h4⟩|⟨b,o,rfl,h4,h5⟩
 .grind[cZ]
 cases ts with
 | nil=>exact⟨_,cap,rfl,hc,.inr ⟨b,o,rfl,λh=>absurd rfl h,λj c B=>by simp[mg]at B⟩⟩
 | cons t ts=>
  by_cases Y:F b
  .exact⟨_,cap,rfl,hc,.inr ⟨b,o,rfl,λ_=>trivial,λj c B=>(h5 j c B).of_eq (W b Y)⟩⟩
  .exfalso
   have h6:DL (ChangeMaps.setBlock w b (.map #[] 0)) (.slice (some ⟨b,o,none⟩) (t::ts).length cap) xs:=h _ λZ V=>by
    simp only[ChangeMaps.setBlock];grind
   obtain⟨us,⟨a',Ez,E,_,M⟩,hul,_⟩:=h6
   simp only[Be.injEq]at E
   obtain⟨rfl,I,rfl⟩:=E
   have U:0<(flat us).length:=by rw[dI,<- I];exact ab9 ee (Flat.pos (α:=σ))
   rcases M with⟨rfl,_⟩|⟨Z,o',J,_,O⟩
   .simp at I
   .simp only[ob.injEq,Addr.mk.injEq,and_true]at J
    obtain⟨rfl,rfl⟩:=J
    have u:=O 0 _ (lU U)
    have hb:=(h5 0 _ (lU (by rw[dI];exact ab9 ee (Flat.pos (α:=σ))))).lt
    unfold Cell World.cell? at u
    dsimp only at u
    rw[jw _ hb]at u
    simp at u
theorem ke.fix(B:∀x y:σ,kp x=kp y->x=y)(h:∀w',ke F w w'->DL w' v xs):∃ts:List σ,ts.length=xs.length/\∀w',ke F w w'->cZ (λ_=>True) w' v ts/\gd ts xs w':=by
 obtain⟨ts,G,hd⟩:=(h w (ke.refl F w)).open
 refine⟨ts,hd.1,λw' E=>?_⟩
 have h1:=ke.rd h G hd.1 w' E
 obtain⟨us,u,I⟩:=(h w' E).open
 rw[cZ.func B h1 u]at *
 grind
end
section
variable {P:Program}{T:Nat}{cx cy:Bool}{a b:Int}{K:Value->Prop}
theorem ZU(h:0<=a-b/\a-b<=255)(k:K (.int .u8 (a-b))):eK P (jQ .sub T cx cy (.int .u8 a) (.int .u8 b)) K:=
 ⟨_,(show pr P (jQ .sub T cx cy (.int .u8 a) (.int .u8 b))=some (.int .u8 (a-b))from by
  show some (n3 .u8 (IntKind.u8.wrap (a-b)))=_
  have:IntKind.u8.wrap (a-b)=a-b:=by
   unfold IntKind.wrap;simp[IntKind.bits,IntKind.signed];omega
  rw[this]),k⟩
theorem U9{src u:TypeId}(h1:P.underlying src=some (.int .u8))(h2:P.underlying u=some (.int .i64))(h:0<=a/\a<=255)(k:K (ir a)):eK P (convert src u (.int .u8 a)) K:=by
 refine⟨_,?_,k⟩
 unfold convert
 simp only[cI,cJ h1,cJ h2,mv]
 show some (n3 .i64 (IntKind.i64.wrap a))=_
 rw[IntWalk.i64_in _ bL]
end
end Go.Fw
namespace Go.Proofs.YtpdlpabnlkofmaaGreatDoor
open Go.Fw
abbrev PD:=List (Bk×Bool)
def jm(b:Bk)(e:Bool)(p:PD):PD:=match b with
 | .nil=>p
 | .cons x c d r=>(.cons x c d r,e)::p
def gB:PD->PD
 | (.cons _ _ _ r,_)::p=>jm r false p
 | (.nil,_)::p=>p
 | []=>[]
def mG:PD->Option (bM×Bk×Bk)
 | (.cons x a b _,_)::_=>some (x,a,b)
 | _=>none
def mH(x:bM)(a:Bk)(p:PD):PD:=if x.n=0 then gB p else jm a false ((.cons {x with n:=x.n-1} a .nil .nil,true)::gB p)
def ku:PD->PD
 | []=>[]
 | (_,e)::p=>if e=true then p else ku p
structure jd where
 names:List ByteArray
 dO:List Int
 bV:PD
 fault:Int
 buf:List bH
def eF(t:jd)(l:List bU):Int×Bool:=if l.length=0 then(0,true)else((pN t.names t.dO l).1,decide ((pN t.names t.dO l).2=0))
def o7(t:jd)(s:ByteArray)(n:Int):jd:={t with dO:=t.dO.set (cU t.names s).toNat n}
def qG(t:jd)(x:bM)(a b:Bk)(n:Int):jd×Bool:=
 if x.kind=1 then({o7 t x.ey n with bV:=gB t.bV},true)
 else if x.kind=11 then({t with bV:=jm (if n=0 then b else a) false (gB t.bV)},true)
 else if x.kind=12 then({t with bV:=mH x a t.bV},true)
 else if x.kind=13 then({t with bV:=ku t.bV},true)
 else if x.kind=14 then(if n=0 then({t with fault:=1},false)else({t with bV:=gB t.bV},true))
 else(t,false)
def qH(t:jd):jd×Bool:=match mG t.bV with
 | none=>(t,false)
 | some (x,a,b)=>if (eF t x.e).2=true/\(eF t x.f).2=true then qG t x a b (eF t x.e).1 else({t with fault:=2},false)
def tm:Nat->jd->Option jd
 | 0,_=>none
 | n+1,t=>if (qH t).2=true then tm n (qH t).1 else some (qH t).1
def lT:Bk->Nat
 | .nil=>0
 | .cons x a b r=>(if x.kind=12 then x.n.toNat*(lT a+1)else lT a+lT b)+lT r+1
def gT(p:PD):Nat:=(p.map λq=>lT q.1).sum
theorem pR(q:Bk×Bool)(p:PD):gT (q::p)=lT q.1+gT p:=by simp[gT]
def Ds(φ:bM->Prop):Bk->Prop
 | .nil=>True
 | .cons x a b r=>φ x/\Ds φ a/\Ds φ b/\Ds φ r
theorem Va{φ:bM->Prop}:∀t:Bk,Ds φ t↔∀x∈t.flat,φ x:=by
 intro t
 induction t with
 | nil=>simp[Ds,Bk.flat]
 | cons x a b r E B u=>
  simp only[Ds,Bk.flat,E,B,u,s4,List.mem_append]
  grind
structure F8(φ:bM->Prop)(p:PD):Prop where
 ne:∀q∈p,q.1≠.nil
 st:∀q∈p,q.1.str
 al:∀q∈p,Ds φ q.1
section
variable {φ:bM->Prop}{p:PD}{b:Bk}{e:Bool}
theorem F8.tail{q:Bk×Bool}(h:F8 φ (q::p)):F8 φ p:=⟨λq u=>h.ne q (qa _ u),λq u=>h.st q (qa _ u),λq u=>h.al q (qa _ u)⟩
theorem F8.push(h:F8 φ p)(G:b.str)(E:Ds φ b):F8 φ (jm b e p):=by
 cases b with
 | nil=>exact h
 | cons x c d r=>
  refine⟨?_,?_,?_⟩<;>intro q u<;>rcases s4.1 u with rfl|u
  .intro B;cases B
  .exact h.ne q u
  .exact G
  .exact h.st q u
  .exact E
  .exact h.al q u
theorem F8.pop(h:F8 φ p):F8 φ (gB p):=by
 match p,h with
 | [],h=>exact h
 | (.nil,_)::p,h=>exact h.tail
 | (.cons x a b r,_)::p,h=>
  have u:=h.st _ (o4 ..)
  have B:=h.al _ (o4 ..)
  exact h.tail.push u.2.2.2.2.2.2 B.2.2.2
theorem F8.leave:∀{p:PD},F8 φ p->F8 φ (ku p)
 | [],h=>h
 | (_,e)::p,h=>by
  unfold ku;split
  .exact h.tail
  .exact h.tail.leave
theorem Ig{x:bM}{a b:Bk}(h:mG p=some (x,a,b)):∃r e u,p=(.cons x a b r,e)::u:=by
 match p,h with
 | (.cons y c d r,e)::u,h=>cases h;grind
theorem Cz(u:F8 φ p)(h:mG p=none):p=[]:=by
 match p,u,h with
 | [],_,_=>rfl
 | (.nil,_)::_,u,_=>exact absurd rfl (u.ne _ (o4 ..))
theorem sM:gT (jm b e p)=lT b+gT p:=by
 cases b with
 | nil=>simp[jm,lT]
 | cons x c d r=>exact pR _ _
theorem Nl:∀p:PD,gT (ku p)<=gT p
 | []=>sl _
 | (b,e)::p=>by
  have:=Nl p
  grind[gT,ku]
theorem Vb(h:b≠.nil):1<=lT b:=by
 cases b with
 | nil=>grind
 | cons x c d r=>unfold lT;omega
theorem yw(h:F8 φ p):p.length<=gT p:=by
 induction p with
 | nil=>simp
 | cons q p u=>
  have:=Vb (h.ne q (o4 ..))
  have:=u h.tail
  rw[pR,o5];omega
theorem sN{x:bM}{a b r:Bk}:lT (.cons x a b r)=(if x.kind=12 then x.n.toNat*(lT a+1)else lT a+lT b)+lT r+1:=rfl
theorem Qy{x:bM}{a b r:Bk}{u:PD}(h:p=(.cons x a b r,e)::u):gT (gB p)+1<=gT p:=by
 subst h
 show gT (jm r false u)+1<=_
 rw[sM,pR,sN];omega
end
structure sO(φ:bM->Prop)(t:jd):Prop where
 p:F8 φ t.bV
 rl:t.dO.length=t.names.length
 nb:t.names.length<=1000
 bl:t.buf.length<=1000
 cl:gT t.bV<=10000
structure Vc(cs ls ns:List ByteArray)(x:bM):Prop where
 k:1<=x.kind/\x.kind<=14
 e:x.e.length<=1000/\x.f.length<=1000
 n:x.kind=12->0<=x.n/\x.n<=1000
 el:¬ x.kind=11->x.ep<=0
 rg:x.kind=1\/x.kind=2\/x.kind=4->0<=cU ns x.ey
 cl:x.kind=2\/x.kind=3\/x.kind=4->0<=cU cs x.name
 lk:x.kind=9\/x.kind=10->0<=cU ls x.name
 nm:(∀y∈x.e,y.name.size<=1000)/\∀y∈x.f,y.name.size<=1000
abbrev yx(cs ls:List ByteArray)(t:jd):Prop:=sO (Vc cs ls t.names) t
section
variable {φ:bM->Prop}{cs ls:List ByteArray}{t t' tR:jd}{x:bM}{a b:Bk}{n:Int}{k:Nat}
theorem sO.bV{p:PD}(h:sO φ t)(u:F8 φ p)(hc:gT p<=gT t.bV):sO φ {t with bV:=p}:=⟨u,h.rl,h.nb,h.bl,vJ hc h.cl⟩
theorem sO.flt(h:sO φ t)(n:Int):sO φ {t with fault:=n}:=⟨h.p,h.rl,h.nb,h.bl,h.cl⟩
theorem sO.set(h:sO φ t)(s:ByteArray)(n:Int):sO φ (o7 t s n):=⟨h.p,by simp[o7,h.rl],h.nb,h.bl,h.cl⟩
theorem sO.top(h:sO φ t)(ht:mG t.bV=some (x,a,b)):φ x/\a.str/\b.str/\Ds φ a/\Ds φ b/\x.body=a.len/\x.ep=b.len/\a.len<=40/\∃r e p,t.bV=(.cons x a b r,e)::p/\r.str/\Ds φ r:=by
 obtain⟨r,e,p,u⟩:=Ig ht
 have h1:=h.p
 rw[u]at h1
 obtain⟨B,M,J,E,O,W,G⟩:=h1.st _ (o4 ..)
 obtain⟨Y,V,I,U⟩:=h1.al _ (o4 ..)
 grind
theorem aeQ(h:yx cs ls t)(ht:mG t.bV=some (x,a,b)):yx cs ls (qG t x a b n).1/\(qG t x a b n).1.names=t.names/\((qG t x a b n).2=true->gT (qG t x a b n).1.bV+1<=gT t.bV):=by
 obtain⟨B,V,sb,W,ab,hb,he,V9,r,e,p,I,sr,ar⟩:=h.top ht
 have E:=h.p.pop
 have O:=Qy (r:=r) I
 have u:gT t.bV=lT (.cons x a b r)+gT p:=by rw[I,pR]
 have M:gB t.bV=jm r false p:=by rw[I];rfl
 have U:gT (gB t.bV)=lT r+gT p:=by rw[M,sM]
 rw[sN]at u
 unfold qG
 split
 .exact⟨(h.set x.ey n).bV E (by show gT (gB t.bV)<=gT t.bV;omega),rfl,λ_=>O⟩
 split
 .rename_i UP
  rw[ei bL]at u
  have hc:gT (jm (if n=0 then b else a) false (gB t.bV))+1<=gT t.bV:=by rw[sM];grind
  refine⟨h.bV (F8.push E ?_ ?_) bL,rfl,λ_=>hc⟩<;>split<;>assumption
 split
 .rename_i UP
  rw[ej UP]at u
  have Y:=B.n UP
  have LK:=B.el bL
  unfold mH
  split
  .exact⟨h.bV E bL,rfl,λ_=>O⟩
  rename_i Wb
  have J:gT (jm a false ((.cons {x with n:=x.n-1} a .nil .nil,true)::gB t.bV))+1<=gT t.bV:=by
   rw[sM,pR,sN,ej (by exact UP),u,U]
   have e:x.n.toNat=(x.n-1).toNat+1:=bL
   rw[e,Nat.succ_mul]
   show lT a+((x.n-1).toNat*(lT a+1)+lT .nil+1+_)+1<=_
   simp only[lT];omega
  refine⟨h.bV (F8.push ⟨?_,?_,?_⟩ V W) bL,rfl,λ_=>J⟩<;>intro q G<;>rcases s4.1 G with rfl|G
  .grind
  .exact E.ne q G
  .exact⟨hb,by show x.ep=((0:Nat):Int);omega,V9,l2 _,V,trivial,trivial⟩
  .exact E.st q G
  .exact⟨⟨B.k,B.e,λhk=>⟨cD,cD⟩,B.el,B.rg,B.cl,B.lk,B.nm⟩,W,trivial,trivial⟩
  exact E.al q G
 split
 .have Z:gT (ku t.bV)+1<=gT t.bV:=by
   rw[u,I];unfold ku
   have:=Nl p
   grind
  exact⟨h.bV h.p.leave bL,rfl,λ_=>Z⟩
 split
 .split
  .exact⟨h.flt 1,rfl,λhh=>by cases hh⟩
  exact⟨h.bV E bL,rfl,λ_=>O⟩
 grind
theorem D3(h:yx cs ls t):yx cs ls (qH t).1/\(qH t).1.names=t.names/\((qH t).2=true->gT (qH t).1.bV+1<=gT t.bV):=by
 unfold qH
 cases ht:mG t.bV with
 | none=>grind
 | some q=>
  obtain⟨x,a,b⟩:=q
  dsimp only
  split
  .exact aeQ h ht
  .exact⟨h.flt 2,rfl,λu=>by cases u⟩
theorem Ih:∀(n:Nat) {t:jd},yx cs ls t->gT t.bV<n->∃tR,tm n t=some tR/\yx cs ls tR/\tR.names=t.names
 | 0,_,_,hc=>by omega
 | n+1,t,h,hc=>by
  obtain⟨h1,h2,h3⟩:=D3 h
  unfold tm
  split
  .rename_i hs
   have:=h3 hs
   have h4:yx cs ls (qH t).1:=by have:=h1;rw[yx,h2]at this |-;exact this
   obtain⟨tR,u,E,B⟩:=Ih n h4 bL
   exact⟨tR,u,E,B.trans h2⟩
  grind
def goD(t:jd):jd:=(tm (gT t.bV+1) t).getD t
theorem qI(h:yx cs ls t):tm (gT t.bV+1) t=some (goD t)/\yx cs ls (goD t)/\(goD t).names=t.names:=by
 obtain⟨tR,u,E,B⟩:=Ih (gT t.bV+1) h (Qg _)
 unfold goD
 grind
theorem Ii{n:Nat}(h:tm n t=some tR):∃k,n=k+1:=by
 cases n with
 | zero=>cases h
 | succ k=>grind
theorem Ti(h:tm (k+1) t=some tR)(u:qH t=(t',true)):tm k t'=some tR:=by
 unfold tm at h;rw[u]at h;exact h
theorem o8(h:tm (k+1) t=some tR)(u:qH t=(t',false)):tR=t':=by
 unfold tm at h;rw[u]at h;exact(ob.inj h).symm
theorem Tj:∀(n:Nat) {t tR:jd},tm n t=some tR->yx cs ls t->tR.fault=0->∀x a b,mG tR.bV=some (x,a,b)->(2<=x.kind/\x.kind<=10)/\(eF tR x.e).2=true/\(eF tR x.f).2=true
 | 0,_,_,B,_,_,_,_,_,_=>by cases B
 | n+1,t,tR,B,h,u,x,a,b,ht=>by
  obtain⟨h1,h2,_⟩:=D3 h
  unfold tm at B
  split at B
  .exact Tj n B bL u x a b ht
  .rename_i hs
   cases B
   have hb:(qH t).2=false:=by simpa using hs
   unfold qH at hb u ht
   cases hq:mG t.bV with
   | none=>rw[hq]at ht;dsimp only at ht;rw[hq]at ht;cases ht
   | some q=>
    obtain⟨y,c,d⟩:=q
    rw[hq]at hb u ht
    dsimp only at hb u ht
    have E:=(h.top hq).1.k
    split at hb
    .rename_i hv
     rw[ej hv]at u ht
     unfold qG at hb u ht
     split at hb
     .cases hb
     rename_i k1
     rw[ei k1]at u ht
     split at hb
     .cases hb
     rename_i k2
     rw[ei k2]at u ht
     split at hb
     .cases hb
     rename_i k3
     rw[ei k3]at u ht
     split at hb
     .cases hb
     rename_i k4
     rw[ei k4]at u ht
     split at hb
     .rename_i k5
      rw[ej k5]at u
      split at hb
      .rename_i k6;rw[ej k6]at u;cases u
      .cases hb
     .rename_i k5
      rw[ei k5]at ht
      rw[hq]at ht;cases ht
      have e:(qH t).1=t:=by unfold qH;rw[hq];dsimp only;rw[ej hv];unfold qG;rw[ei k1,ei k2,ei k3,ei k4,ei k5]
      rw[e]
      exact⟨bL,hv⟩
    .rename_i hv
     rw[ei hv]at u;cases u
section
variable {e:Int}
theorem ZV(h:x.kind=1):qG t x a b e=({o7 t x.ey e with bV:=gB t.bV},true):=by unfold qG;grind
theorem J5(h:x.kind=11):qG t x a b e=({t with bV:=jm (if e=0 then b else a) false (gB t.bV)},true):=by unfold qG;simp[h]
theorem Tl(h:x.kind=12):qG t x a b e=({t with bV:=mH x a t.bV},true):=by unfold qG;simp[h]
theorem Tm(h:x.kind=13):qG t x a b e=({t with bV:=ku t.bV},true):=by unfold qG;simp[h]
theorem Nm(h:x.kind=14)(u:e=0):qG t x a b e=({t with fault:=1},false):=by unfold qG;grind
theorem Nn(h:x.kind=14)(u:¬ e=0):qG t x a b e=({t with bV:=gB t.bV},true):=by unfold qG;grind
theorem Tn(h1:¬ x.kind=1)(h2:¬ x.kind=11)(h3:¬ x.kind=12)(h4:¬ x.kind=13)(h5:¬ x.kind=14):qG t x a b e=(t,false):=by grind[qG]
end
theorem ZW(h:mG t.bV=none):qH t=(t,false):=by unfold qH;rw[h]
theorem ZX(h:mG t.bV=some (x,a,b))(h2:(eF t x.e).2=false):qH t=({t with fault:=2},false):=by unfold qH;grind
theorem ZY(h:mG t.bV=some (x,a,b))(h3:(eF t x.f).2=false):qH t=({t with fault:=2},false):=by unfold qH;grind
theorem ZZ(h:mG t.bV=some (x,a,b))(h2:(eF t x.e).2=true)(h3:(eF t x.f).2=true):qH t=qG t x a b (eF t x.e).1:=by unfold qH;grind
end
def Qz(G:Option Addr)(u E:Nat)(B:Bool):pr hH (mE 143 [(0,.slice G u E),(1,.bool B)].toArray)=some (.agg [.slice G u E,.bool B].toArray):=by kernel_rfl
structure sP where
 l:SV
 J6:Bool
instance:Flat sP where
 agg:=true
 sz:=2
 enc e:=[.slice e.l.a e.l.n e.l.cap,.bool e.J6]
 val e:=.agg [.slice e.l.a e.l.n e.l.cap,.bool e.J6].toArray
 pos:=dy
 len _:=rfl
 one a v h:=by simp at h;rcases h with rfl|rfl<;>rfl
 nU _ _:=rfl
 nV h:=by cases h
variable (w:World) (K:Value->hM)
def S137(I:Value):Prop:=
 aL 193 w λa b=>nC I λc=>fA 138 c 3 λd=>lA 136 d b λe=>lN 136 e λf=>bB .eql 3 f (i 0) λg=>cV g (eK hH (mE 193 [].toArray) λh=>sA 193 a h b λj=>
 lA 193 a j λr=>K (.tuple #[r,(.slice none 0 0),(.slice none 0 0),ff]) j) (nC I λk=>fA 138 k 3 λl=>lA 136 l (drew b) λn=>nC I λo=>fA 138 o 3 λp=>lA 136 p (drew b) λq=>
 lN 136 q λs=>bB .sub 3 s (i 1) λt=>iA 136 n t λu=>fA 143 u 0 λv=>lA 141 v (drew b) λx=>iA 141 x (i 0) λy=>lA 193 y (drew b) λz=>aL 193 (drew b) λE ab=>
 sA 193 E z ab λG=>fA 193 E 6 λV=>lA 3 V G λU=>bC .add 3 (i 1) U λB=>fA 193 E 7 λW=>lA 3 W G λO=>bA .add 3 B O λJ=>lA 193 E (drew G) λZ=>
 eK hH (oa 141 x (some (i 1)) (some B) (some B)) λY=>eK hH (oa 141 x (some B) (some J) (some J)) λal=>sA 193 a Z (drew G) λM=>
 lA 193 a M λLg=>K (.tuple #[Lg,Y,al,tt]) M)
def ayW:dL:=λi=>match i with
 | 3=>.run 0 14
 | 7=>.run 0 14
 | _=>.nil
theorem aeS(u:Value)(h:S137 w K u):CR 137 [u] w K:=
 oe 50 ayW 60 [.cell 2 193,.tmp 3,.tmp 4,.tmp 5] Tryz.func137 h
def ayX:dL:=λi=>match i with
 | 3=>.run 0 14
 | _=>.nil
def S197(B:Value):Prop:=
 jR (λE M a=>∀_:Env,
 eH (λK2=>eK hH (Op.unary .not M) λb=>cV b (nC B λc=>fA 138 c 3 λd=>lA 136 d a λe=>lN 136 e λf=>bB .gtr 3 f (i 0) λg=>K2 g a) (K2 ff a))
 (λh j=>∀_:Env,
 cV h (nC B λk=>fA 138 k 3 λl=>lA 136 l j λn=>lN 136 n λo=>bB .sub 3 o (i 1) λp=>nC B λq=>fA 138 q 3 λr=>lA 136 r j λs=>iA 136 s p λt=>fA 143 t 1 λu=>
 lA 4 u j λv=>nC B λx=>fA 138 x 3 λy=>lA 136 y j λz=>eK hH (oa 136 z none (some p) (some p)) λI=>nC B λO=>fA 138 O 3 λJ=>sA 136 J I j λG=>
 E v G) (K (.tuple #[]) j))) (λE=>E ff w)
theorem aeT(u:Value)(h:S197 w K u):CR 197 [u] w K:=
 oe 38 (λ_=>.nil) 0 [] Tryz.func197 h
def S161(u E:Value):Prop:=
 lN 82 E λa=>bB .eql 3 a (i 0) λb=>cV b (K (.tuple #[(i 0),tt]) w) (nC u λc=>fA 138 c 1 λd=>lA 91 d (drew w) λe=>nC u λf=>fA 138 f 2 λg=>lA 41 g (drew w) λh=>
 cF 143 [E,e,h] (drew w) λj k=>xT j 0 λl=>xT j 1 λn=>yM (λB=>bB .neq 31 n (i 0) λo=>cV o (nC u λp=>fA 138 p 4 λq=>sA 3 q (i 2) k λr=>B r) (
 B k)) (λs=>∀_:Env,
 bB .eql 31 n (i 0) λt=>K (.tuple #[l,t]) s))
def ayY:dL:=λi=>match i with
 | 3=>.run 0 15
 | _=>.nil
theorem aeU(B u:Value)(h:S161 w K B u):CR 161 [B,u] w K:=
 oe 32 ayY 48 [.tmp 4,.tmp 5] Tryz.func161 h
def S117(B:Value):Prop:=
 RL (λE a=>∀_:Env,
 cF 137 [B] a λb c=>xT b 0 λd=>xT b 1 λe=>xT b 2 λf=>xT b 3 λg=>aL 193 c λh j=>sA 193 h d j λk=>eK hH (Op.unary .not g) λl=>cV l (K (.tuple #[]) k) (
 fA 193 h 3 λn=>lA 82 n k λo=>cF 161 [B,o] k λp q=>xT p 0 λr=>xT p 1 λs=>eK hH (Op.unary .not s) λt=>cV t (K (.tuple #[]) q) (fA 193 h 4 λu=>lA 82 u q λv=>
 cF 161 [B,v] q λx y=>xT x 0 λ_=>xT x 1 λz=>eK hH (Op.unary .not z) λaa=>cV aa (K (.tuple #[]) y) (fA 193 h 0 λab=>lA 3 ab y λG=>bB .eql 3 G (i 1) λZ=>
 cV Z (nC B λW=>fA 138 W 2 λM=>lA 41 M (drew y) λO=>nC B λU=>fA 138 U 1 λai=>lA 91 ai (drew y) λaj=>fA 193 h 1 λak=>lA 9 ak (drew y) λal=>
 cF 159 [aj,al] (drew y) λam J=>kA 41 M O J (iA 41 O am λao=>sA 3 ao r J λap=>cF 164 [B] ap λ_ aq=>E aq)) (bB .eql 3 G (i 11) λar=>cV ar (cF 164 [B] y λ_ asx=>
 eH (λK2=>bB .eql 3 r (i 0) λau=>cV au (K2 f asx) (K2 e asx)) (λI av=>∀_:Env,
 cF 116 [B,I,ff] av λ_ aw=>E aw)) (bB .eql 3 G (i 12) λax=>cV ax (lA 193 h y λay=>cF 196 [B,ay,e] y λ_ az=>E az) (bB .eql 3 G (i 13) λa0=>cV a0 (cF 197 [B] y λ_ a1=>
 E a1) (bB .eql 3 G (i 14) λa2=>cV a2 (bB .eql 3 r (i 0) λa3=>cV a3 (nC B λY=>fA 138 Y 4 λa5=>sA 3 a5 (i 1) y λV=>K (.tuple #[]) V) (cF 164 [B] y λ_ a7=>
 E a7)) (K (.tuple #[]) y))))))))) (λE=>E w)
def ayZ:dL:=λi=>match i with
 | 8=>(.of [(0,[]),(1,[]),(2,[]),(3,[]),(4,[]),(5,[]),(6,[]),(7,[]),(8,[]),(9,[]),(11,[]),(10,[3]),(12,[]),(13,[])])
 | _=>.nil
theorem aeV(u:Value)(h:S117 w K u):CR 117 [u] w K:=
 oe 83 ayZ 0 [] Tryz.func117 h
theorem No:PL 116:=dJ Tryz.func116
theorem To:PL 137:=dJ Tryz.func137
theorem Np:PL 164:=dJ Tryz.func164
theorem ar5:PL 196:=dJ Tryz.func196
theorem ar6:PL 197:=dJ Tryz.func197
theorem Nq:PL 161:=dJ Tryz.func161
theorem ahL:PL 117:=dJ Tryz.func117
theorem ahM:PL 141:=dJ Tryz.func141
end Go.Proofs.YtpdlpabnlkofmaaGreatDoor
namespace Go.Fw
section
variable {P:Program}{w w0:World}{A S:Nat->Prop}{L:List HP}
theorem F9{n cap l h m:Nat}{lo hi B:Option Value}(I:lo=none/\l=0\/∃i:Int,lo=some (ir i)/\0<=i/\l=i.toNat)(M:∃i:Int,hi=some (ir i)/\0<=i/\h=i.toNat)(G:∃i:Int,B=some (ir i)/\0<=i/\m=i.toNat)
  (h1:l<=h) (h2:h<=m) (h3:m<=cap):pr P (wN true n cap lo hi B)=some (l,h,m):=by
 obtain⟨j,rfl,E,rfl⟩:=M
 obtain⟨k,rfl,u,rfl⟩:=G
 rcases I with⟨rfl,rfl⟩|⟨i,rfl,J,rfl⟩<;>simp only[wN,cI,eS,mv]
 .rw[jh u bL];simp only[mv];rw[jh E bL];rfl
 rw[jh u bL];simp only[mv];rw[jh E bL];simp only[mv];rw[jh J bL];rfl
theorem Tp{T E sz I:Nat}{z:Option Nat}{a:Option Addr}{n cap l h m:Nat}{lo hi u:Option Value}(ht:eM P T=some (E,sz,I,z))
  (hb:pr P (wN true n cap lo hi u)=some (l,h,m)) :
  pr P (oa T (.slice a n cap) lo hi u)=some (.slice (if m=l then a else a.map (·.add (l*sz))) (h-l) (m-l)):=by
 obtain⟨B,M,G,J,_⟩:=ft ht
 unfold oa
 rw[cI,cJ B]
 simp only[mv]
 unfold Instr.slice
 rw[cI,cJ B]
 simp only[mv]
 rw[cI,hb]
 simp only[mv]
 rw[cI,mQ G,J]
 rfl
variable {α:Type}[Flat α] {xs:List α}
theorem cZ.ay0{v:Value}{a:Option Addr}{n cap l h:Nat}(G:v=.slice a n cap)(M:cZ S w v xs)(h1:l<=h)(h2:h<=xs.length) :
  cZ S w (.slice (if h=l then a else a.map (·.add (l*nk α))) (h-l) (h-l)) ((xs.take h).drop l):=by
 obtain⟨U,W,O,V,h3⟩:=M
 rw[O]at G
 simp only[Be.injEq]at G
 obtain⟨rfl,Y,rfl⟩:=G
 have hlen:((xs.take h).drop l).length=h-l:=by simp;omega
 rcases h3 with⟨I,Z⟩|⟨b,o,rfl,h4,h5⟩
 .subst I
  exact⟨_,h-l,by rw[hlen],ee,.inl ⟨ee,by simp at h2;omega⟩⟩
 refine⟨_,h-l,by rw[hlen],by rw[hlen];exact sl _,.inr ?_⟩
 have J:(xs.take h).drop l≠[]->xs≠[]:=λE B=>E (by rw[B];simp)
 by_cases E:h=l
 .rw[ej E]
  refine⟨b,o,rfl,λB=>h4 (J B),λj c u=>?_⟩
  have:((xs.take h).drop l)=[]:=by rw[<- vq,hlen];omega
  rw[this]at u;simp[mg]at u
 rw[ei E]
 refine⟨b,o+l*nk α,by simp[gi],λB=>h4 (J B),λj c u=>?_⟩
 rw[Hr,Hq,List.getElem?_drop,KF]at u
 split at u
 .have:=h5 _ c u
  rwa [show o+(l*nk α+j)=o+l*nk α+j from bL]at this
 cases u
theorem Nr{T E I:Nat}{z:Option Nat}{v:Value}{i j:Int}{K:Value->Prop}(ht:eM P T=some (E,nk α,I,z))(G:cZ S w v xs)
  (J:0<=i) (h1:i<=j) (h2:j<=xs.length) (k:∀B,(∀w' (ys:List α),cZ S w' v ys->cZ S w' B ((ys.take j.toNat).drop i.toNat))->K B):eK P (oa T v (some (ir i)) (some (ir j)) (some (ir j))) K:=by
 obtain⟨a,cap,rfl,M,h3⟩:=G
 refine⟨_,Tp ht (F9 (.inr ⟨i,rfl,J,rfl⟩) ⟨j,rfl,bL,rfl⟩ ⟨j,rfl,bL,rfl⟩ bL (sl _) bL),k _ λw' ys u=>u.ay0 rfl bL ?_⟩
 obtain⟨_,_,h4,_⟩:=u
 grind
theorem QA{T E I:Nat}{z:Option Nat}{v:Value}{i:Int}{K:Value->Prop}(ht:eM P T=some (E,nk α,I,z))(G:cZ S w v xs)
  (J:0<=i) (h2:i<=xs.length) (k:∀B,(∀w' (ys:List α),cZ S w' v ys->cZ S w' B (ys.drop i.toNat))->K B):eK P (oa T v (some (ir i)) none none) K:=by
 obtain⟨a,cap,rfl,M,h3⟩:=G
 refine⟨_,wS ht (og (.inr ⟨i,rfl,J,rfl⟩) (.inl ⟨rfl,rfl⟩) bL bL),k _ λw' ys u=>?_⟩
 have O:ys.length=xs.length:=by
  obtain⟨_,_,h4,_⟩:=u
  grind
 have:=u.cut rfl (show i.toNat<=ys.length by omega) (sl _)
 grind
theorem C8{T E W:Nat}{z:Option Nat}{v:Value}{i:Int}{K:Value->Prop}(ht:eM P T=some (E,nk α,W,z))
  (I:St w0 A (bF v xs::L) w) (M:0<=i) (h1:i<=xs.length) (k:∀O,St w0 A (bF O (xs.take i.toNat)::L) w->K O):eK P (oa T v none (some (ir i)) (some (ir i))) K:=by
 obtain⟨a,cap,u,Z,_⟩:=I.dS
 refine⟨_,(by rw[u];exact Tp ht (F9 (.inl ⟨rfl,rfl⟩) ⟨i,rfl,M,rfl⟩ ⟨i,rfl,M,rfl⟩ (l2 _) (sl _) bL)),k _ ?_⟩
 refine I.qm λF B=>?_
 rcases B with⟨G,Y,U⟩|⟨b,Ez,rest,V,hb,hl,B⟩
 .rw[G]at u
  subst Y
  simp only[Be.injEq]at u
  obtain⟨rfl,_,rfl⟩:=u
  have hi:i.toNat=0:=by simp at h1;omega
  refine⟨F,.inl ⟨?_,ee,U⟩,λb hb=>.inl hb,gD.refl _ _⟩
  rw[hi];rfl
 rw[V]at u
 simp only[Be.injEq]at u
 obtain⟨rfl,_,rfl⟩:=u
 have J:(xs.take i.toNat).length=i.toNat:=by rw[l9];omega
 refine⟨F,.inr ⟨b,i.toNat,flat (xs.drop i.toNat)++rest,?_,?_,⟨bL,?_⟩,B⟩,λb hb=>.inl hb,gD.refl _ _⟩
 .rw[J]
  simp[gi]
 .rw[<- n4,<- ig,qT];exact hb
 rw[l0,dI,J];omega
end
end Go.Fw
namespace Go.Proofs.YtpdlpabnlkofmaaGreatDoor
open Go.Fw
def q7(K:hM)(u:SV)(rows:List aZ)(l:List bM)(w:World):Prop:=(∀w',K w'->gd rows l w')/\(K w->cZ (λ_=>True) w (jr u) rows)
abbrev PE:=List (sP×List aZ)
def vN(K:hM)(w:World):PE->PD->Prop
 | [],[]=>True
 | e::es,q::p=>(e.1.J6=q.2/\q7 K e.1.l e.2 q.1.flat w)/\vN K w es p
 | _,_=>False
def J7(es:PE):List sP:=(es.map Prod.fst).reverse
theorem Z1(e:sP×List aZ)(es:PE):J7 (e::es)=J7 es++[e.1]:=by simp[J7]
theorem qj(es:PE):(J7 es).length=es.length:=by simp[J7]
theorem vN.len{K:hM}{w:World}:∀{es:PE}{p:PD},vN K w es p->es.length=p.length
 | [],[],_=>rfl
 | e::es,q::p,h=>by have:=vN.len h.2;simp[this]
 | [],_::_,h=>h.elim
 | _::_,[],h=>h.elim
def eJ(K Φ:hM)(p:Nat)(room:Int)(t:jd):HP:=oO λu:Nat=>oO λB:SV=>oO λrg=>oO λpl=>oO λes:PE=>fact (∀w,K w->cZ (λ_=>True) w (jr B) t.names)
 (sep (bX p [.pointer (some ⟨u,0,none⟩),jr B,rg,pl,ir t.fault]) (sep (iR u room t.buf) (sep (bF rg t.dO) (sep (bF pl (J7 es)) (eC λw=>vN K w es t.bV/\Φ w)))))
abbrev qJ(K:hM)(p:Nat)(room:Int)(t:jd):HP:=eJ K (λ_=>True) p room t
section
variable {w w0:World}{A:Nat->Prop}{R:List HP}{p:Nat}{K Φ Ψ:hM}{room:Int}{t:jd}
theorem pS{H1 H2 B u E:HP}(G:St w0 A (sep H1 (sep H2 (sep B (sep u E)))::R) w):St w0 A (H1::H2::B::u::E::R) w:=by
 have h1:=G.split
 have h2:=h1.p1.split
 have h3:=h2.p1.split
 have h4:=h3.p1.split
 exact h4.p2.p3.p4
theorem pU{H1 H2 B u E:HP}(G:St w0 A (H1::H2::B::u::E::R) w):St w0 A (sep H1 (sep H2 (sep B (sep u E)))::R) w:=by
 have h4:=St.join G.p4.p4
 have h3:=St.join h4.p3
 have h2:=St.join h3.p2
 exact St.join h2.p1
abbrev qk(u:Nat)(B:SV)(rg pl:Value)(f:Int):List Value:=[.pointer (some ⟨u,0,none⟩),jr B,rg,pl,.int .i64 f]
theorem eJ.open(u:St w0 A (eJ K Φ p room t::R) w):∃B E rg pl es,(∀w,K w->cZ (λ_=>True) w (jr E) t.names)/\
  St w0 A (bX p (qk B E rg pl t.fault)::iR B room t.buf::bF rg t.dO::bF pl (J7 es)::eC (λw=>vN K w es t.bV/\Φ w)::R) w:=by
 obtain⟨B,u⟩:=u.dK;obtain⟨E,u⟩:=u.dK;obtain⟨rg,u⟩:=u.dK;obtain⟨pl,u⟩:=u.dK;obtain⟨es,u⟩:=u.dK;obtain⟨G,u⟩:=u.j4
 exact⟨B,E,rg,pl,es,G,pS u⟩
theorem eJ.shut{u:Nat}{B:SV}{rg pl:Value}{es:PE}(G:∀w,K w->cZ (λ_=>True) w (jr B) t.names)
  (E:St w0 A (bX p (qk u B rg pl t.fault)::iR u room t.buf::bF rg t.dO::bF pl (J7 es)::eC (λw=>vN K w es t.bV/\Φ w)::R) w):St w0 A (eJ K Φ p room t::R) w:=
 St.dT u (St.dT B (St.dT rg (St.dT pl (St.dT es (St.l4 G (pU E))))))
theorem eJ.mono(u:St w0 A (eJ K Φ p room t::R) w)(h:∀w,Φ w->Ψ w):St w0 A (eJ K Ψ p room t::R) w:=by
 obtain⟨G,I,rg,pl,es,E,u⟩:=eJ.open u
 have h1:=u.p4.dH (Ψ:=λw=>vN K w es t.bV/\Ψ w) λw B=>⟨B.1,h w B.2⟩
 exact eJ.shut E h1.p4.p4.p4.p4
theorem eJ.now(u:St w0 A (eJ K Φ p room t::R) w):Φ w:=by
 obtain⟨B,E,rg,pl,es,G,u⟩:=eJ.open u
 exact u.p4.eC.2
theorem eJ.rd(h:Has (eJ K Φ p room t) w):∃B E rg pl es,(∀w,K w->cZ (λ_=>True) w (jr E) t.names)/\pk w p (qk B E rg pl t.fault)/\sH w B room t.buf/\cZ (λ_=>True) w rg t.dO/\cZ (λ_=>True) w pl (J7 es)/\vN K w es t.bV/\Φ w:=by
 obtain⟨F,u⟩:=h.st
 obtain⟨B,E,rg,pl,es,G,u⟩:=eJ.open u
 exact⟨B,E,rg,pl,es,G,u.hb,Bh u.p1,u.p2.dS,u.p3.dS,u.p4.eC.1,u.p4.eC.2⟩
theorem iz{E:aZ}{x:bM}(h:n5 w E x):∃B u:SV,E=⟨x.kind,x.ey,x.name,B,u,x.n,x.body,x.ep,x.at_⟩/\cZ (λ_=>True) w (jr B) x.e/\cZ (λ_=>True) w (jr u) x.f:=by
 obtain⟨B,u,h1,h2,h3⟩:=h
 exact⟨B,u,h1,DL.flat h2,DL.flat h3⟩
theorem gd.cut{rows:List aZ}{l:List bM}{i j:Nat}(h:gd rows l w):gd ((rows.take j).drop i) ((l.take j).drop i) w:=(h.take j).drop i
theorem aqR{x:bM}{a b r:Bk}(h:(Bk.cons x a b r).str){j:Int}(E:j=1+x.body):(((Bk.cons x a b r).flat.take j.toNat).drop (1:Int).toNat)=a.flat:=by
 obtain⟨u,_⟩:=h
 have B:=a.cX
 rw[vD _ (a:=1) (c:=(1:Int).toNat) (n:=a.flat.length) bL rfl]
 show(a.flat++(b.flat++r.flat)).take _=_
 grind
theorem aqS{x:bM}{a b r:Bk}(h:(Bk.cons x a b r).str){i j:Int}(hi:i=1+x.body)(G:j=1+x.body+x.ep):(((Bk.cons x a b r).flat.take j.toNat).drop i.toNat)=b.flat:=by
 obtain⟨u,E,_⟩:=h
 have B:=a.cX
 have lb:=b.cX
 rw[vD _ (a:=1+a.flat.length) (n:=b.flat.length) bL bL,<- List.drop_drop]
 show((a.flat++(b.flat++r.flat)).drop _).take _=_
 grind
theorem q7.cut{E u:SV}{rows:List aZ}{l:List bM}{i j:Nat}(h:q7 K E rows l w)(hc:∀w' (ys:List aZ),cZ (λ_=>True) w' (jr E) ys->cZ (λ_=>True) w' (jr u) ((ys.take j).drop i)):q7 K u ((rows.take j).drop i) ((l.take j).drop i) w:=
 ⟨λw' B=>gd.cut (h.1 w' B),λB=>hc _ _ (h.2 B)⟩
theorem q7.Xy{E u:SV}{rows:List aZ}{l:List bM}{i:Nat}(h:q7 K E rows l w)(hc:∀w' (ys:List aZ),cZ (λ_=>True) w' (jr E) ys->cZ (λ_=>True) w' (jr u) (ys.drop i)):q7 K u (rows.drop i) (l.drop i) w:=
 ⟨λw' B=>(h.1 w' B).drop i,λB=>hc _ _ (h.2 B)⟩
theorem vN.top{es:PE}{q:Bk×Bool}{p:PD}(h:vN K w es (q::p)):∃u rows B,es=(⟨u,q.2⟩,rows)::B/\q7 K u rows q.1.flat w/\vN K w B p:=by
 match es,h with
 | [],h=>exact h.elim
 | e::es,h=>
  obtain⟨⟨u,E⟩,rows⟩:=e
  obtain⟨⟨h1,h2⟩,h3⟩:=h
  grind
theorem vN.cons{u:SV}{e:Bool}{rows:List aZ}{es:PE}{q:Bk×Bool}{p:PD}(h:vN K w ((⟨u,e⟩,rows)::es) (q::p)):q7 K u rows q.1.flat w/\vN K w es p:=⟨h.1.2,h.2⟩
theorem Ga{e:sP×List aZ}{es:PE}:(J7 (e::es))[es.length]?=some e.1:=by grind[J7]
theorem Tq{e:sP×List aZ}{es:PE}:(J7 (e::es)).take es.length=J7 es:=by grind[J7]
end
theorem C116(K Φ:hM)(p:Nat)(room:Int)(t:jd)(F:Nat->Prop)(lv:SV)(rows:List aZ)(b:Bk)(e:Bool)(w:World)(U:(eJ K Φ p room t).p w F)(G:∀w',gD F w w'->K w')(E:∀w,Φ w->q7 K lv rows b.flat w)(Y:t.bV.length<=100000) :
    CR 116 [.pointer (some ⟨p,0,none⟩),jr lv,.bool e] w (λv w'=>v=.tuple #[]/\mT F (eJ K Φ p room {t with bV:=jm b e t.bV}) w w'):=by
 have u:=St.begin U;refine fb Tryz.func116 ?_;obtain⟨I,M⟩:=E _ (eJ.now u);have hlen:=(I _ (G _ u.aF)).1;refine aI fk (M (G _ u.aF)) (cL (aC (λc=>?_) λc=>?_));rotate_left
 .have hb:b=.nil:=by
   cases b with
   | nil=>rfl
   | cons y a B r=>simp[Bk.flat]at hlen;omega
  subst hb;exact⟨rfl,u.mut⟩
 obtain⟨y,a,B,r,rfl⟩:=Bk.DW (t:=b) bL;obtain⟨Z,nv,rg,pl,es,J,u⟩:=eJ.open u;have LK:=u.p4.eC.1.len;refine aD (aA iU (aB oK u.hb rfl (pop (Qz lv.a lv.n lv.cap e) (bD ([(⟨lv,e⟩:sP)]) u rU rfl rfl (dQ rfl) λV _ u=>?_))));have W:=u.dS;refine bJ u.p4 rU W (by rw[qj];simp;omega) dy (λO _ u=>have u:=u.p1.drop;aD (aA iU (aR u.p1 oK (dQ rfl) u.dS.one λ_ u=>?_)));have u:=u.p4.dH (Ψ:=λw=>vN K w ((⟨lv,e⟩,rows)::es) ((.cons y a B r,e)::t.bV)/\Φ w) (λw h=>⟨⟨⟨rfl,E w h.2⟩,h.1⟩,h.2⟩)
 have u:=u.p2;rw[<- Z1 (⟨lv,e⟩,rows) es]at u;have u:=eJ.shut (Φ:=Φ) (t:={t with bV:=(.cons y a B r,e)::t.bV}) J u.p1.p1.p4.p4.p4;exact⟨rfl,u.mut⟩
def C164(K Φ:hM)(p:Nat)(room:Int)(t:jd)(F:Nat->Prop)(y:bM)(a b r:Bk)(e:Bool)(E:PD)(w:World)(hF:(eJ K Φ p room t).p w F)(hK:∀w',gD F w w'->K w')(BL:t.bV=(.cons y a b r,e)::E)(ie:(Bk.cons y a b r).str)(ng:t.bV.length<=100000) :
   CR 164 [.pointer (some ⟨p,0,none⟩)] w (λv w'=>v=.tuple #[]/\mT F (eJ K Φ p room {t with bV:=gB t.bV}) w w'):=by
 have Y:gB t.bV=jm r false E:=by rw[BL];rfl
 have ay1:E.length<=100000:=cD
 have u:=St.begin hF;refine pj Tryz.func164 (pl:=ayX) ?_;obtain⟨bp,nv,rg,pl,es,hk,u⟩:=eJ.open u;have B:=u.p4.eC.1;rw[BL]at B;obtain⟨J,rows,M,rfl,⟨yr,Dg⟩,_⟩:=B.top;have LK:=B.len;rw[o5,o5]at LK;have US:=yr _ (hK _ u.aF);have G6:=US.1;have td:=(Bk.cons y a b r).cX
 change rows.length=(Bk.cons y a b r).flat.length at G6
 obtain⟨KJ,hb2,hb3,hb4,_⟩:=id ie;simp only[Bk.len]at td;obtain⟨t0,V⟩:∃t0,rows[(0:Int).toNat]?=some t0:=⟨_,lU (by simp;omega)⟩;obtain⟨ge,gf,rfl,_,_⟩:=iz (US.2 0 _ y V rfl);refine aD (aA iU (aB oK u.hb rfl (aI rU u.p3.dS ?_)));rw[qj,o5];refine fc bL ?_;rw[show((M.length+1:Nat):Int)-1=(M.length:Int)from bL];refine aD (aA iU (aB oK u.hb rfl (aK rU u.p3.dS bL (by rw[tx];exact Ga) λq hq=>bT J Lz hq rfl rfl λq2 KL=>aE jG KL (aD (aA iU (aB oK u.hb rfl (have u:=u.p3;C8 rU u bL (by rw[qj,o5];omega) λs25 u=>?_)))))))
 rw[tx,Tq]at u;refine aD (aA iU (aR u.p1 oK (dQ rfl) u.dS.one λ_ u=>?_));have u:=u.drew.p4;rw[BL]at u;have u:=u.dH (Ψ:=λw=>vN K w M E/\(Φ w/\q7 K J rows (Bk.cons y a b r).flat w)) (λ_ h=>⟨h.1.2,h.2,h.1.1.2⟩);have I:=u.eC.2.2.2 (hK _ u.aF);have u:=eJ.shut (Φ:=λw=>Φ w/\q7 K J rows (Bk.cons y a b r).flat w) (t:={t with bV:=E}) hk u.p2.p4.p4.p4;refine aK fk I bL V (λq3 W=>bT y.body iW W rfl rfl λq4 U=>aE bO U (aJ bL (aK fk I bL V λq5 O=>bT y.ep iD O rfl rfl λq6 hq6=>aE bO hq6 (aJ bL (QA fk I bL bL λs40 G=>?_)))))
 obtain⟨Z,rfl⟩:=(G _ _ I).fK;refine aY No u (H':=λ_=>eJ K (λw=>Φ w/\q7 K J rows (Bk.cons y a b r).flat w) p room {t with bV:=jm r false E}) (Φ:=λ_ _=>True) (λF2 ek dU=>?_) ?_
 .refine(C116 K _ p room {t with bV:=E} F2 Z (rows.drop (1+y.body+y.ep).toNat) r false _ ek (λw' hc=>hK w' (dU w' hc).aF) (λw h=>?_) ay1).mono λ_ _ r=>r.mono λ_ _ h=>⟨trivial,h.2⟩;have:=h.2.Xy G;rw[Bk.ajs ie rfl]at this;exact this
 rintro _ _ _ u;rw[<- Y]at u;exact⟨rfl,(eJ.mono u λ_ h=>h.1).mut⟩
theorem C137(K:hM)(p:Nat)(t:jd)(bp:Nat)(nv:SV)(rg pl:Value)(es:PE)(φ:bM->Prop)(w:World)(mX:pk w p (qk bp nv rg pl t.fault))(Z:cZ (λ_=>True) w pl (J7 es))(V:vN K w es t.bV)
   (hw:∀w',Ext w w'->K w') (B:F8 φ t.bV) (hl:t.bV.length<=100000):CR 137 [.pointer (some ⟨p,0,none⟩)] w (λv w'=>Ext w w'/\((mG t.bV=none/\v=.tuple #[jr (⟨0,⟨#[]⟩,⟨#[]⟩,cG,cG,0,0,0,0⟩:aZ),.slice none 0 0,.slice none 0 0,.bool false])\/
    ∃x a b xv av bv ra rb,mG t.bV=some (x,a,b)/\v=.tuple #[jr (xv:aZ),jr (av:SV),jr (bv:SV),.bool true]/\(∀w',K w'->n5 w' xv x)/\∀J,vN K J es t.bV->q7 K av ra a.flat J/\q7 K bv rb b.flat J)):=by
 have c3:=mX.cell (o:=3) rfl;have M:=V.len;have u:=St.start w;refine aeS _ _ _ ?_;unfold S137;refine aQ u iN (λb2 _ u=>have u:=u.enc (cs':=kp (⟨0,⟨#[]⟩,⟨#[]⟩,cG,cG,0,0,0,0⟩:aZ)) rfl;aD (aA iU (bE oK (c3.ext u.aF) (aI rU (Z.ext u.aF) ?_))));rw[qj];refine aG (aC (λc=>?_) λc=>?_)
 .have OE:t.bV=[]:=vq.1 bL;exact pop (v:=jr (⟨0,⟨#[]⟩,⟨#[]⟩,cG,cG,0,0,0,0⟩:aZ)) (by kernel_rfl) (aM (x:=(⟨0,⟨#[]⟩,⟨#[]⟩,cG,cG,0,0,0,0⟩:aZ)) u eD rfl rfl λ_ u=>aE eD u.At ⟨u.drop.aF,.inl ⟨by rw[OE];rfl,rfl⟩⟩)
 obtain⟨bV,O⟩:∃q,q=t.bV:=⟨_,rfl⟩;rw[<- O]at V B M hl |-;cases bV with
 | nil=>exact absurd (show((es.length:Nat):Int)=0 by have h0:es.length=0:=M;omega) c
 | cons q p'=>
 obtain⟨q1,e⟩:=q;cases q1 with
 | nil=>exact absurd rfl (B.ne _ (o4 ..))
 | cons y a b r=>
 have ie:=B.st _ (o4 ..);obtain⟨sv,rows,Vd,rfl,⟨yr,Dg⟩,_⟩:=V.top;have US:=yr _ (hw _ (Ext.refl _));have G6:=US.1;have td:=(Bk.cons y a b r).cX
 change rows.length=(Bk.cons y a b r).flat.length at G6
 obtain⟨KJ,hb2,hb3,hb4,_⟩:=id ie;simp only[Bk.len]at td;rw[o5]at M c;rw[o5]at M hl;obtain⟨t0,W⟩:∃t0,rows[(0:Int).toNat]?=some t0:=⟨_,lU (by simp;omega)⟩;obtain⟨ge,gf,rfl,_,_⟩:=iz (US.2 0 _ y W rfl);have E:=Dg (hw _ (Ext.refl _));have u:=u.drew;refine aD (aA iU (bE oK (c3.ext u.aF) (aD (aA iU (bE oK (c3.ext u.aF) (aI rU (Z.ext u.aF) ?_))))));rw[qj,o5];refine fc bL ?_;rw[show((Vd.length+1:Nat):Int)-1=(Vd.length:Int)from bL];refine aK rU (Z.ext u.aF) bL (by rw[tx];exact Ga) (λq hq=>bT sv Lz hq rfl rfl λq2 KL=>aE jG KL (aK fk (E.ext u.aF) bL W λq3 Y=>aE eD Y (aQ u iN λb7 _ u=>aM (x:=(⟨y.kind,y.ey,y.name,ge,gf,y.n,y.body,y.ep,y.at_⟩:aZ)) u eD rfl rfl λ_ u=>aA iW (aB (v:=ir y.body) bO u.hb rfl (aJ bL (aA iD (aB (v:=ir y.ep) bO u.hb rfl (aJ bL ?_))))))))
 have u:=u.drew;refine aE eD u.At (Nr fk (E.ext u.aF) bL bL bL λs44 I=>?_);obtain⟨U,rfl⟩:=(I _ _ E).fK;refine Nr fk (E.ext u.aF) bL bL bL (λs49 G=>?_);obtain⟨ay7,rfl⟩:=(G _ _ E).fK;refine aM (x:=(⟨y.kind,y.ey,y.name,ge,gf,y.n,y.body,y.ep,y.at_⟩:aZ)) u.p1 eD rfl rfl (λ_ u=>aE eD u.At ?_);refine⟨u.drop.drop.aF,.inr ⟨y,a,b,_,U,ay7,(rows.take (1+y.body).toNat).drop (1:Int).toNat,(rows.take (1+y.body+y.ep).toNat).drop (1+y.body).toNat,rfl,rfl,λw' hk=>(yr w' hk).2 0 _ y W rfl,λJ h2=>?_⟩⟩;have h3:=h2.cons.1
 refine⟨?_,?_⟩
 .have:=h3.cut I;rw[aqR ie rfl]at this;exact this
 have:=h3.cut G;rw[aqS ie rfl rfl]at this;exact this
theorem C197(K Φ:hM)(p:Nat)(room:Int)(t:jd)(F:Nat->Prop)(w:World)(hF:(eJ K Φ p room t).p w F)(hK:∀w',gD F w w'->K w')(ng:t.bV.length<=100000) :
   CR 197 [.pointer (some ⟨p,0,none⟩)] w (λv w'=>v=.tuple #[]/\mT F (eJ K Φ p room {t with bV:=ku t.bV}) w w'):=by
 have u:=St.begin hF;refine aeT _ _ _ ?_;unfold S197;refine⟨λm ev O=>∃(E:Bool) (B:PD),ev=.bool E/\m=B.length+(if E then 0 else 1)/\B.length<=100000/\ku t.bV=(if E=true then B else ku B)/\St w F [eJ K Φ p room {t with bV:=B}] O,⟨_,false,t.bV,rfl,rfl,ng,rfl,u⟩,?_⟩;rintro m _ O ⟨E,B,rfl,rfl,Wi,J,u⟩ _;obtain⟨bp,nv,rg,pl,es,U,u⟩:=eJ.open u;have G:=u.p4.eC.1;have V:=G.len
 change es.length=B.length at V
 refine⟨λY w'=>Y=.bool (!E&&decide (0<B.length))/\w'=O,?_,?_⟩
 .refine bN ?_;cases E with
  | true=>exact eR ⟨rfl,rfl⟩
  | false=>
   refine gO (aD (aA iU (aB oK u.hb rfl (aI rU u.p3.dS ?_))));rw[qj];refine cL ?_;exact⟨vb (by rw[P0,Et];exact fN.2 bL),rfl⟩
 rintro _ _ ⟨rfl,rfl⟩ _;refine aW (λc=>?_) (λc=>?_);rotate_left
 .have hd:ku t.bV=B:=by
   rw[J];cases E with
   | true=>rfl
   | false=>
    have:B=[]:=vq.1 (by have:=g6 (by simpa only[P0,Et]using c);omega);rw[this];rfl
  rw[hd];exact⟨rfl,(eJ.shut (t:={t with bV:=B}) U u).mut⟩
 rw[Bool.and_eq_true,Bool.not_eq_true',decide_eq_true_eq]at c;obtain⟨rfl,Z⟩:=c;cases B with
 | nil=>simp at Z
 | cons q I=>
 obtain⟨q1,e⟩:=q;obtain⟨sv,rows,M,rfl,_,_⟩:=G.top;rw[o5,o5]at V;rw[o5]at Wi;refine aD (aA iU (aB oK u.hb rfl (aI rU u.p3.dS ?_)));rw[qj,o5];refine fc bL ?_;rw[show((M.length+1:Nat):Int)-1=(M.length:Int)from bL];refine aD (aA iU (aB oK u.hb rfl (aK rU u.p3.dS bL (by rw[tx];exact Ga) λq hq=>bT e Xc hq rfl rfl λq2 KL=>aE DH KL (aD (aA iU (aB oK u.hb rfl (have u:=u.p3;C8 rU u bL (by rw[qj,o5];omega) λW u=>?_)))))))
 rw[tx,Tq]at u;refine aD (aA iU (aR u.p1 oK (dQ rfl) u.dS.one λ_ u=>have u:=u.p4.dH (Ψ:=λw=>vN K w M I/\Φ w) (λ_ h=>⟨h.1.2,h.2⟩);have u:=eJ.shut (Φ:=Φ) (t:={t with bV:=I}) U u.p2.p4.p4.p4;⟨_,?_,e,I,rfl,rfl,bL,?_,u⟩))
 .show I.length+(if e=true then 0 else 1)<I.length+1+1
  split<;>omega
 rw[J];rfl
def C161(K Φ:hM)(p:Nat)(room:Int)(t:jd)(F:Nat->Prop)(lv:Value)(xs:List bU)(w:World)(M:(eJ K Φ p room t).p w F)(J:∀w',gD F w w'->K w')(I:cZ (λ_=>True) w lv xs)(O:xs.length<=1048576)(U:t.names.length<=1048576) :
   CR 161 [.pointer (some ⟨p,0,none⟩),lv] w (λv w'=>v=.tuple #[ir (eF t xs).1,.bool (eF t xs).2]/\mT F (eJ K Φ p room {t with fault:=if (eF t xs).2=true then t.fault else 2}) w w'):=by
 have u:=St.begin M;refine aeU _ _ _ _ ?_;unfold S161;refine aI gU I (aG (aC (λc=>?_) λc=>?_))
 .have B:eF t xs=(0,true):=by unfold eF;rw[ej bL]
  rw[B];exact⟨rfl,u.mut⟩
 have B:eF t xs=((pN t.names t.dO xs).1,decide ((pN t.names t.dO xs).2=0)):=by unfold eF;rw[ei bL]
 obtain⟨W,Y,rg,pl,es,E,u⟩:=eJ.open u;have u:=u.drew;refine aD (aA AD (aB je u.hb rfl (aD (aA uG (aB dX u.hb rfl (aV ag9 u (C143 _ _ _ xs t.names t.dO _ (I.ext (Ext.drew w)) (E _ (J _ u.aF)) u.p2.dS O U) λ_ V u=>aO rfl (aO rfl ⟨λw'=>St w F [eJ K Φ p room {t with fault:=if (eF t xs).2=true then t.fault else 2}] w',bW (aC (λG=>?_) λG=>?_),?_⟩)))))))
 .refine aD (aA wY (aR u bO (dQ rfl) rfl λ_ u=>?_));have ht:{t with fault:=2}={t with fault:=if (eF t xs).2=true then t.fault else 2}:=by rw[B];dsimp only;rw[ez G];rfl
  rw[<- ht];exact eJ.shut (t:={t with fault:=2}) E u
 .have ht:t={t with fault:=if (eF t xs).2=true then t.fault else 2}:=by rw[B];dsimp only;rw[ew bL];rfl
  rw[<- ht];exact eJ.shut E u
 intro _ u _;exact aG ⟨by rw[B],u.mut⟩
def eJ.akw{w w0:World}{A:Nat->Prop}{R:List HP}{p:Nat}{K Φ Ψ:hM}{room:Int}{t:jd}(u:St w0 A (eC Ψ::eJ K Φ p room t::R) w):St w0 A (eJ K (λw=>Φ w/\Ψ w) p room t::R) w:=by
 obtain⟨E,G,rg,pl,es,B,u⟩:=eJ.open u.p1
 have h1:=u.p5.p5.fX.dH (Ψ:=λw=>vN K w es t.bV/\Φ w/\Ψ w) λw h=>⟨h.1.1,h.1.2,h.2⟩
 exact eJ.shut B h1.p4.p4.p4.p4
theorem gd.cons{w:World}{t:aZ}{x:bM}{ts:List aZ}{xs:List bM}(h:n5 w t x)(u:gd ts xs w):gd (t::ts) (x::xs) w:=by
 refine⟨by simp[u.1],λi t' B h1 h2=>?_⟩
 cases i with
 | zero=>simp at h1 h2;subst h1 h2;exact h
 | succ i=>exact u.2 i t' B (by simpa using h1) (by simpa using h2)
theorem QB(x:bM)(a:Bk):(Bk.cons x a .nil .nil).flat=x::a.flat:=by simp[Bk.flat]
theorem C196(K Φ:hM)(p:Nat)(room:Int)(t:jd)(F:Nat->Prop)(x:bM)(xv:aZ)(Y:SV)(U:List aZ)(a b r:Bk)(e:Bool)(O:PD)(w:World)(hF:(eJ K Φ p room t).p w F)(I:∀w',gD F w w'->K w')(BL:t.bV=(.cons x a b r,e)::O)(ie:(Bk.cons x a b r).str)(ng:t.bV.length<=90000)
   (zb:∀w,K w->n5 w xv x) (hΦ:∀w,Φ w->q7 K Y U a.flat w) (hn:0<=x.n/\x.n<=1000) :
   CR 196 [.pointer (some ⟨p,0,none⟩),jr xv,jr Y] w (λv w'=>v=.tuple #[]/\mT F (eJ K Φ p room {t with bV:=mH x a t.bV}) w w'):=by
 have u:=St.begin hF;obtain⟨E,B,rfl,_,_⟩:=iz (zb _ (I _ u.aF));have V9:a.flat.length<=40:=by rw[Bk.cX];exact ie.2.2.1
 have hppl:(gB t.bV).length<=90001:=by
  rw[BL];show(jm r false O).length<=_;rw[BL,o5]at ng;cases r with
  | nil=>show O.length<=_;omega
  | cons _ _ _ _=>show O.length+1<=_;omega
 refine fb Tryz.func196 ?_;refine cP (x:=(⟨x.kind,x.ey,x.name,E,B,x.n,x.body,x.ep,x.at_⟩:aZ)) u (λb4 _ u=>aY Np u.p1 (H':=λ_=>eJ K (Φ) p room {t with bV:=gB t.bV}) (Φ:=λ_ _=>True) (λJ M V=>?_) ?_)
 .exact(C164 K _ p room t J x a b r e O _ M (λw' hc=>I w' (V w' hc).aF) BL ie bL).mono λ_ _ r=>r.mono λ_ _ h=>⟨trivial,h.2⟩
 rintro _ _ _ u;refine aA jH (aB (v:=ir x.n) bO u.p1.hb rfl (aG (aC (λc=>?_) λc=>?_)))
 .rw[show mH x a t.bV=gB t.bV from by unfold mH;rw[ej c]];exact⟨rfl,u.p1.drop.mut⟩
 rw[show mH x a t.bV=jm a false ((.cons {x with n:=x.n-1} a .nil .nil,true)::gB t.bV)from by unfold mH;rw[ei c]];refine aE eD u.p1.At (bD ([⟨x.kind,x.ey,x.name,E,B,x.n,x.body,x.ep,x.at_⟩]:List aZ) u fk rfl rfl (dQ rfl) λs13 _ u=>?_);have Wj:=hΦ _ (eJ.now u.p1);have hral:=(Wj.1 _ (I _ u.aF)).1;refine bJ u fk (Wj.2 (I _ u.aF)) (by simp;omega) dy (λs15 _ u=>dG u fk bL ee λq17 Z=>mq jH Z λq18 W=>nH (x.n:Int) u bO W (x:=(⟨x.kind,x.ey,x.name,E,B,x.n,x.body,x.ep,x.at_⟩:aZ)) rfl rfl (fc bL (dG u fk bL ee λq21 h21=>mq jH h21 λq22 h22=>Xu (x:=(⟨x.kind,x.ey,x.name,E,B,x.n,x.body,x.ep,x.at_⟩:aZ)) (⟨x.kind,x.ey,x.name,E,B,x.n-1,x.body,x.ep,x.at_⟩:aZ) (x.n-1:Int) u bO h22 rfl dy rfl λ_ u=>?_)))
 obtain⟨G,rfl⟩:=u.dS.fK;have u:=eJ.akw u.freeze
 have aiU:∀w',K w'->gd (((⟨x.kind,x.ey,x.name,E,B,x.n,x.body,x.ep,x.at_⟩:aZ)::U).set (0:Int).toNat (⟨x.kind,x.ey,x.name,E,B,x.n-1,x.body,x.ep,x.at_⟩:aZ)) (Bk.cons {x with n:=x.n-1} a .nil .nil).flat w':=λw' hw=>by
  rw[QB];obtain⟨_,_,h4,h5,h6⟩:=zb w' hw;cases h4
  exact gd.cons ⟨E,B,rfl,h5,h6⟩ (Wj.1 w' hw)
 refine aY No u (H':=λ_=>eJ K (λw=>Φ w/\cZ (λ_=>True) w (jr G) (([(⟨x.kind,x.ey,x.name,E,B,x.n,x.body,x.ep,x.at_⟩:aZ)]++U).set (0:Int).toNat (⟨x.kind,x.ey,x.name,E,B,x.n-1,x.body,x.ep,x.at_⟩:aZ))) p room { {t with bV:=gB t.bV}with bV:=jm (Bk.cons {x with n:=x.n-1} a .nil .nil) true ({t with bV:=gB t.bV}).bV}) (Φ:=λ_ _=>True) (λJ M V=>?_) ?_
 .exact(C116 K _ p room ({t with bV:=gB t.bV}) J G _ (Bk.cons {x with n:=x.n-1} a .nil .nil) true _ M (λw' hc=>I w' (V w' hc).aF) (λ_ h=>⟨aiU,λ_=>h.2⟩) (by show(gB t.bV).length<=_;omega)).mono λ_ _ r=>r.mono λ_ _ h=>⟨trivial,h.2⟩
 rintro _ _ _ u;refine aY No u (H':=λ_=>eJ K (λw=>Φ w/\cZ (λ_=>True) w (jr G) (([(⟨x.kind,x.ey,x.name,E,B,x.n,x.body,x.ep,x.at_⟩:aZ)]++U).set (0:Int).toNat (⟨x.kind,x.ey,x.name,E,B,x.n-1,x.body,x.ep,x.at_⟩:aZ))) p room { {t with bV:=(.cons {x with n:=x.n-1} a .nil .nil,true)::gB t.bV}with bV:=jm a false ({t with bV:=(.cons {x with n:=x.n-1} a .nil .nil,true)::gB t.bV}).bV}) (Φ:=λ_ _=>True) (λJ M V=>?_) ?_
 .exact(C116 K _ p room ({t with bV:=(.cons {x with n:=x.n-1} a .nil .nil,true)::gB t.bV}) J Y U a false _ M (λw' hc=>I w' (V w' hc).aF) (λw h=>hΦ w h.1) (by show(gB t.bV).length+1<=_;omega)).mono λ_ _ r=>r.mono λ_ _ h=>⟨trivial,h.2⟩
 rintro _ _ _ u;exact⟨rfl,(eJ.mono u.p1.drop λ_ h=>h.1).mut⟩
def C117(K:hM)(p:Nat)(room:Int)(t tR:jd)(n:Nat)(cs ls:List ByteArray)(F:Nat->Prop)(w:World)(hF:(qJ K p room t).p w F)(V:∀w',gD F w w'->K w')(iv:yx cs ls t)(hg:tm n t=some tR) :
   CR 117 [.pointer (some ⟨p,0,none⟩)] w (λv w'=>v=.tuple #[]/\mT F (qJ K p room tR) w w'):=by
 have u:=St.begin hF;refine aeV _ _ _ ?_;unfold S117;refine⟨λmm w'=>∃B:jd,tm mm B=some tR/\yx cs ls B/\St w F [qJ K p room B] w',⟨n,t,hg,iv,u⟩,?_⟩;rintro mm _ ⟨B,uZ,W,u⟩ _;obtain⟨k,rfl⟩:=Ii uZ;have ng:=yw W.p;have Ag:=W.cl;have Wk:=W.nb;have G6:=W.rl;obtain⟨bp,nv,rg,pl,es,hk,u⟩:=eJ.open u;refine dR To (C137 K p B bp nv rg pl es _ _ u.hb u.p3.dS u.p4.eC.1 (λ_ e=>V _ (u.aF.then e)) W.p bL) ?_;rintro v _ ⟨he,hv⟩;have u:=u.ext he
 rcases hv with⟨er,rfl⟩|⟨x,a,b,xv,E,G,I,J,zW,rfl,zb,hab⟩
 .refine aO rfl (aO rfl (aO rfl (aO rfl (aQ u iN λb2 w3 u=>aM (x:=(⟨0,⟨#[]⟩,⟨#[]⟩,cG,cG,0,0,0,0⟩:aZ)) u eD rfl rfl λw4 u=>bN (gO ?_)))));rw[o8 uZ (ZW er)];exact⟨rfl,(eJ.shut hk u.drop).mut⟩
 obtain⟨Z,Y,rfl,_,_⟩:=iz (zb _ (V _ u.aF))
 have QC:∀w,K w->cZ (λ_=>True) w (jr Z) x.e/\cZ (λ_=>True) w (jr Y) x.f:=λw hw=>by
  obtain⟨_,_,h4,h5,h6⟩:=iz (zb w hw);cases h4
  exact⟨h5,h6⟩
 obtain⟨hx,sa,sb,aa,ab,KJ,hb2,V9,r,e,p',BL,sr,ar⟩:=W.top zW;have ie:(Bk.cons x a b r).str:=W.p.st _ (by rw[BL];exact o4 ..);have hxe:=hx.e;have u:=u.p4.dH (Ψ:=λw=>vN K w es B.bV/\(q7 K E I a.flat w/\q7 K G J b.flat w)) (λw h=>⟨h.1,hab w h.1⟩);have u:=eJ.shut (Φ:=λw=>q7 K E I a.flat w/\q7 K G J b.flat w) (t:=B) hk u.p4.p4.p4.p4;refine aO rfl (aO rfl (aO rfl (aO rfl (aQ u iN λb2 w3 u=>aM (x:=(⟨x.kind,x.ey,x.name,Z,Y,x.n,x.body,x.ep,x.at_⟩:aZ)) u eD rfl rfl λw4 u=>bN (eR (aA iV (aB (v:=jr Z) jo u.hb rfl (aY Nq u.p1 (H':=λ_=>eJ K (λw=>q7 K E I a.flat w/\q7 K G J b.flat w) p room {B with fault:=if (eF B x.e).2=true then B.fault else 2}) (Φ:=λv _=>v=.tuple #[ir (eF B x.e).1,.bool (eF B x.e).2]) (λM U O=>?_) ?_))))))))
 .exact C161 K _ p room B M _ x.e _ U (λw' hc=>V w' (O w' hc).aF) (QC _ (V _ u.aF)).1 bL bL
 rintro _ w5 rfl u;refine aO rfl (aO rfl (bN (aW (λc1=>?_) λc1=>?_)))
 .have h1:(eF B x.e).2=false:=by simpa using c1
  rw[h1]at u;rw[o8 uZ (ZX zW h1)];exact⟨rfl,(eJ.mono u.p1.drop λ_ _=>trivial).mut⟩
 have h1:(eF B x.e).2=true:=by simpa using c1
 replace u:St w F [eJ K (λw=>q7 K E I a.flat w/\q7 K G J b.flat w) p room B,bX b2 (kp (⟨x.kind,x.ey,x.name,Z,Y,x.n,x.body,x.ep,x.at_⟩:aZ))] w5:=by rw[h1]at u;exact u
 refine aA j1 (aB (v:=jr Y) jo u.p1.hb rfl (aY Nq u (H':=λ_=>eJ K (λw=>q7 K E I a.flat w/\q7 K G J b.flat w) p room {B with fault:=if (eF B x.f).2=true then B.fault else 2}) (Φ:=λv _=>v=.tuple #[ir (eF B x.f).1,.bool (eF B x.f).2]) (λM U O=>?_) ?_))
 .exact C161 K _ p room B M _ x.f _ U (λw' hc=>V w' (O w' hc).aF) (QC _ (V _ u.aF)).2 bL bL
 rintro _ w6 rfl u;refine aO rfl (aO rfl (bN (aW (λc2=>?_) λc2=>?_)))
 .have h2:(eF B x.f).2=false:=by simpa using c2
  rw[h2]at u;rw[o8 uZ (ZY zW h2)];exact⟨rfl,(eJ.mono u.p1.drop λ_ _=>trivial).mut⟩
 have h2:(eF B x.f).2=true:=by simpa using c2
 replace u:St w F [eJ K (λw=>q7 K E I a.flat w/\q7 K G J b.flat w) p room B,bX b2 (kp (⟨x.kind,x.ey,x.name,Z,Y,x.n,x.body,x.ep,x.at_⟩:aZ))] w6:=by rw[h2]at u;exact u
 have hgk:=ZZ zW h1 h2
 have wx:∀(t2:jd) (w':World),qG B x a b (eF B x.e).1=(t2,true)->St w F [eJ K (λw=>q7 K E I a.flat w/\q7 K G J b.flat w) p room t2,bX b2 (kp (⟨x.kind,x.ey,x.name,Z,Y,x.n,x.body,x.ep,x.at_⟩:aZ))] w'->∃m',m'<k+1/\∃B:jd,tm m' B=some tR/\yx cs ls B/\St w F [qJ K p room B] w':=λt2 w' h3 h4=>by
  have h5:=hgk.trans h3;obtain⟨h6,h7,_⟩:=D3 W;rw[h5]at h6 h7;exact⟨k,Qg k,t2,Ti uZ h5,h6,eJ.mono h4.p1.drop λ_ _=>trivial⟩
 refine aA dN (aB (v:=ir x.kind) bO u.p1.hb rfl (aG (aC (λk1=>?_) λk1=>?_)))
 .have QD:=dM.1 (hx.rg (.inl k1));obtain⟨j,hj,Cm,_⟩:=lQ QD;have CO:=(kE.1 Cm).1;obtain⟨bp,nv,rg,pl,es,hk,u⟩:=eJ.open u;have u:=u.drew;refine aD (aA uG (aB dX u.hb rfl (aD (aA AD (aB je u.hb rfl (aA iC (aB (v:=.string x.ey) gv u.p5.hb rfl (aV HQ u (C159 _ B.names x.ey _ (hk _ (V _ u.aF)) bL) λ_ he u=>?_))))))));refine⟨aH dX (u.hb.cell rfl),?_⟩;refine dG u.p2 cQ bL bL (λq51 h51=>iM (eF B x.e).1 u.p2 bO h51 bL λ_ u=>have u:=eJ.shut (Φ:=λw=>q7 K E I a.flat w/\q7 K G J b.flat w) (t:=o7 B x.ey (eF B x.e).1) hk u.p2.p2;aY Np u (H':=λ_=>eJ K (λw=>q7 K E I a.flat w/\q7 K G J b.flat w) p room {o7 B x.ey (eF B x.e).1 with bV:=gB (o7 B x.ey (eF B x.e).1).bV}) (Φ:=λ_ _=>True) (λM U O=>?_) ?_)
  .exact(C164 K _ p room (o7 B x.ey (eF B x.e).1) M x a b r e p' _ U (λw' hc=>V w' (O w' hc).aF) BL ie (by show B.bV.length<=_;omega)).mono λ_ _ r=>r.mono λ_ _ h=>⟨trivial,h.2⟩
  rintro _ _ _ u;exact wx _ _ (ZV k1) u
 refine aG (aC (λk2=>?_) λk2=>?_)
 .refine aY Np u (H':=λ_=>eJ K (λw=>q7 K E I a.flat w/\q7 K G J b.flat w) p room {B with bV:=gB B.bV}) (Φ:=λ_ _=>True) (λM U O=>?_) ?_
  .exact(C164 K _ p room B M x a b r e p' _ U (λw' hc=>V w' (O w' hc).aF) BL ie bL).mono λ_ _ r=>r.mono λ_ _ h=>⟨trivial,h.2⟩
  rintro _ w10 _ u;refine⟨λjv w'=>jv=(if (eF B x.e).1=0 then jr G else jr E)/\w'=w10,?_,?_⟩
  .refine aG ?_;refine aC (λc=>⟨(ej c).symm,rfl⟩) (λc=>⟨(ei c).symm,rfl⟩)
  rintro _ _ ⟨rfl,rfl⟩ _
  have hpq:(gB B.bV).length<=100000:=by
   have:=yw W.p.pop;have:=Qy BL;omega
  have e1:(if (eF B x.e).1=0 then jr G else jr E)=jr (if (eF B x.e).1=0 then G else E):=by split<;>rfl
  rw[e1];refine aY No u (H':=λ_=>eJ K (λw=>q7 K E I a.flat w/\q7 K G J b.flat w) p room { {B with bV:=gB B.bV}with bV:=jm (if (eF B x.e).1=0 then b else a) false ({B with bV:=gB B.bV}).bV}) (Φ:=λ_ _=>True) (λM U O=>?_) ?_
  .exact(C116 K _ p room ({B with bV:=gB B.bV}) M (if (eF B x.e).1=0 then G else E) (if (eF B x.e).1=0 then J else I) (if (eF B x.e).1=0 then b else a) false _ U (λw' hc=>V w' (O w' hc).aF) (λ_ h=>by split;exact h.2;exact h.1) hpq).mono λ_ _ r=>r.mono λ_ _ h=>⟨trivial,h.2⟩
  rintro _ _ _ u;exact wx _ _ (J5 k2) u
 refine aG (aC (λk3=>?_) λk3=>?_)
 .refine aE eD u.p1.At (aY ar5 u (H':=λ_=>eJ K (λw=>q7 K E I a.flat w/\q7 K G J b.flat w) p room {B with bV:=mH x a B.bV}) (Φ:=λ_ _=>True) (λM U O=>?_) ?_)
  .exact(C196 K _ p room B M x ⟨x.kind,x.ey,x.name,Z,Y,x.n,x.body,x.ep,x.at_⟩ E I a b r e p' _ U (λw' hc=>V w' (O w' hc).aF) BL ie bL zb (λ_ h=>h.1) (hx.n k3)).mono λ_ _ r=>r.mono λ_ _ h=>⟨trivial,h.2⟩
  rintro _ _ _ u;exact wx _ _ (Tl k3) u
 refine aG (aC (λk4=>?_) λk4=>?_)
 .refine aY ar6 u (H':=λ_=>eJ K (λw=>q7 K E I a.flat w/\q7 K G J b.flat w) p room {B with bV:=ku B.bV}) (Φ:=λ_ _=>True) (λM U O=>?_) ?_
  .exact(C197 K _ p room B M _ U (λw' hc=>V w' (O w' hc).aF) bL).mono λ_ _ r=>r.mono λ_ _ h=>⟨trivial,h.2⟩
  rintro _ _ _ u;exact wx _ _ (Tm k4) u
 refine aG (aC (λk5=>?_) λk5=>?_)
 .refine aG (aC (λc=>?_) λc=>?_)
  .obtain⟨bp,nv,rg,pl,es,hk,u⟩:=eJ.open u;refine aD (aA wY (aR u bO (dQ rfl) rfl λ_ u=>?_));have u:=eJ.shut (Φ:=λw=>q7 K E I a.flat w/\q7 K G J b.flat w) (t:={B with fault:=1}) hk u;rw[o8 uZ (hgk.trans (Nm k5 c))];exact⟨rfl,(eJ.mono u.p1.drop λ_ _=>trivial).mut⟩
  refine aY Np u (H':=λ_=>eJ K (λw=>q7 K E I a.flat w/\q7 K G J b.flat w) p room {B with bV:=gB B.bV}) (Φ:=λ_ _=>True) (λM U O=>?_) ?_
  .exact(C164 K _ p room B M x a b r e p' _ U (λw' hc=>V w' (O w' hc).aF) BL ie bL).mono λ_ _ r=>r.mono λ_ _ h=>⟨trivial,h.2⟩
  rintro _ _ _ u;exact wx _ _ (Nn k5 c) u
 rw[o8 uZ (hgk.trans (Tn k1 k2 k3 k4 k5))];exact⟨rfl,(eJ.mono u.p1.drop λ_ _=>trivial).mut⟩
variable (w:World) (K:Value->hM)
def ay8:dL:=λi=>match i with
 | 8=>(.of [(0,[]),(1,[]),(2,[]),(3,[]),(4,[]),(5,[]),(6,[]),(7,[]),(8,[]),(9,[]),(10,[]),(11,[]),(12,[]),(13,[]),(14,[7]),(15,[]),(16,[]),(17,[]),(18,[]),(19,[])])
 | _=>.nil
def S20(G:Value):Prop:=
 nC G λa=>fA 96 a 8 λb=>lA 3 b w λc=>bB .neq 3 c (i 0) λd=>cV d (K (.slice none 0 0) w) (nC G λe=>fA 96 e 4 λf=>lA 93 f w λg=>cF 79 [g] w λh j=>lN 126 h λk=>
 od (λB E l n=>∀_:Env,
 bA .lss 3 l k λo=>cV o (iA 126 h l λp=>lA 41 p n λq=>eK hH (mE 50 [(0,(i 3)),(3,q)].toArray) λr=>bS 39 1 [(0,r)] n λs t=>aP 39 E s t λu v=>
 bB .add 3 l (i 1) λx=>B u x v) (K E n)) λB=>B (.slice none 0 0) (i 0) j)
theorem akz(u:Value)(h:S20 w K u):CR 20 [u] w K:=
 oe 28 (λ_=>.nil) 4 [.tmp 2] Tryz.func20 h
def S160(U G a B:Value):Prop:=
 qM hH (BF 193 a) w λb c=>aL 56 c λd e=>nC G λf=>fA 138 f 0 λg=>lA 88 g e λh=>cF 226 [h,B] e λj k=>xT j 0 λl=>xT j 1 λn=>En (λM=>
 eK hH (Op.unary .not n) λo=>cV o (nC U λp=>fA 96 p 4 λq=>lA 93 q k λs=>cF 227 [s,B] k λt u=>xT t 0 λv=>xT t 1 λ_=>M v (i 1) u) (M l (i 2) k))
 (λO E x=>∀_:Env,
 nC G λy=>fA 138 y 2 λz=>lA 41 z (drew x) λJ=>nC G λab=>fA 138 ab 1 λac=>lA 91 ac (drew x) λY=>fA 193 b 1 λV=>lA 9 V (drew x) λW=>cF 159 [Y,W] (drew x) λZ I=>
 kA 41 z J I (iA 41 J Z λai=>sA 3 ai O I λaj=>eK hH (mE 56 [(0,E),(2,B),(3,O)].toArray) λak=>sA 56 d ak aj λal=>lA 56 d al λr=>
 K r al))
def ay9:dL:=λi=>match i with
 | 6=>(.of [(0,[]),(1,[]),(2,[]),(3,[]),(4,[]),(5,[]),(6,[]),(7,[]),(8,[]),(9,[]),(11,[]),(10,[3]),(12,[]),(13,[])])
 | _=>.nil
theorem aeW(B u G E:Value)(h:S160 w K B u G E):CR 160 [B,u,G,E] w K:=
 oe 49 ay9 256 [.cell 8 56] Tryz.func160 h
def S163(J E a B:Value):Prop:=
 qM hH (BF 193 a) w λb c=>aL 56 c λd e=>nC J λf=>fA 96 f 4 λg=>lA 93 g e λh=>cF 227 [h,B] e λj k=>xT j 0 λl=>xT j 1 λ_=>fA 193 b 3 λn=>
 lA 82 n k λo=>cF 161 [E,o] k λp q=>xT p 0 λs=>xT p 1 λ_=>fA 193 b 4 λt=>lA 82 t q λu=>cF 161 [E,u] q λv x=>xT v 0 λy=>xT v 1 λ_=>nC E λz=>
 fA 138 z 2 λO=>lA 41 O (drew x) λV=>nC E λac=>fA 138 ac 1 λad=>lA 91 ad (drew x) λY=>fA 193 b 1 λZ=>lA 9 Z (drew x) λag=>cF 159 [Y,ag] (drew x) λW U=>
 kA 41 O V U (iA 41 V W λaj=>sA 3 aj l U λG=>bA .neq 3 l s λal=>cV al (eK hH (mE 56 [(0,(i 9)),(2,B),(3,l)].toArray) λam=>sA 56 d am G λI=>
 lA 56 d I λr=>K r I) (nC J λao=>fA 96 ao 4 λap=>lA 93 ap G λaq=>cF 156 [aq,B,y] G λ_ ar=>eK hH (mE 56 [(0,(i 8)),(2,B),(3,l),(4,y)].toArray) λasx=>
 sA 56 d asx ar λM=>lA 56 d M λLg=>K Lg M))
def aza:dL:=λi=>match i with
 | 4=>(.of [(0,[]),(1,[]),(2,[]),(3,[]),(4,[]),(5,[]),(6,[]),(7,[]),(8,[]),(9,[]),(11,[]),(10,[3]),(12,[]),(13,[])])
 | _=>.nil
theorem aeX(B u G E:Value)(h:S163 w K B u G E):CR 163 [B,u,G,E] w K:=
 oe 68 aza 256 [.cell 8 56] Tryz.func163 h
def S91(E M:Value):Prop:=
 aL 56 w λa b=>nC E λc=>fA 96 c 6 λd=>lA 94 d b λe=>iA 94 e M λf=>lA 135 f b λg=>nC g λh=>fA 138 h 4 λj=>lA 3 j b λk=>bB .neq 3 k (i 0) λl=>
 cV l (nC g λn=>fA 138 n 4 λo=>lA 3 o b λp=>cF 158 [E,M,p] b λq s=>sA 56 a q s λt=>lA 56 a t λr=>K r t) (cF 137 [g] b λu v=>xT u 0 λx=>xT u 1 λ_=>
 xT u 2 λ_=>xT u 3 λ_=>aL 193 v λy z=>sA 193 y x z λO=>nC E λab=>fA 96 ab 1 λac=>lA 91 ac (drew O) λad=>fA 193 y 2 λae=>lA 9 ae (drew O) λaf=>
 nC E λag=>fA 96 ag 2 λah=>lA 91 ah (drew O) λai=>fA 193 y 2 λaj=>lA 9 aj (drew O) λZ=>cF 159 [ad,af] (drew O) λal V=>kA 91 ah ai V (kA 9 aj Z V (
 cF 159 [ai,Z] V λU Y=>nC E λap=>fA 96 ap 0 λaq=>lA 27 aq Y λar=>cF 52 [ar,al] Y λasx au=>aL 56 au λG B=>yM (λI=>fA 193 y 0 λaw=>lA 3 aw B λJ=>
 bB .eql 3 J (i 2) λay=>cV ay (lA 193 y B λaz=>cF 160 [E,g,az,al] B λa0 a1=>sA 56 G a0 a1 λa2=>I a2) (bB .eql 3 J (i 3) λa3=>cV a3 (fA 193 y 3 λa4=>
 lA 82 a4 B λa5=>cF 161 [g,a5] B λW a7=>xT W 0 λa8=>xT W 1 λ_=>nC g λa9=>fA 138 a9 0 λba=>lA 88 ba a7 λbb=>eK hH (mE 231 [(0,(i 3)),(1,asx),(2,al),(3,a8)].toArray) λbc=>
 cF 162 [bb,bc] a7 λ_ bd=>eK hH (mE 56 [(0,(i 3)),(2,al),(3,a8)].toArray) λbe=>sA 56 G be bd λbf=>I bf) (bB .eql 3 J (i 5) λbg=>cV bg (nC g λbh=>
 fA 138 bh 0 λbi=>lA 88 bi B λbj=>eK hH (mE 231 [(0,(i 5)),(1,asx)].toArray) λbk=>cF 162 [bj,bk] B λ_ bl=>eK hH (mE 56 [(0,(i 4)),(2,asx)].toArray) λbm=>
 sA 56 G bm bl λbn=>I bn) (bB .eql 3 J (i 6) λbo=>cV bo (nC g λbp=>fA 138 bp 0 λbq=>lA 88 bq B λbr=>eK hH (mE 231 [(0,(i 6)),(1,asx)].toArray) λbs=>
 cF 162 [br,bs] B λ_ bt=>eK hH (mE 56 [(0,(i 5)),(2,asx)].toArray) λbu=>sA 56 G bu bt λbv=>I bv) (bB .eql 3 J (i 7) λbw=>cV bw (nC g λbx=>
 fA 138 bx 0 λbz=>lA 88 bz B λb0=>eK hH (mE 231 [(0,(i 7))].toArray) λb1=>cF 162 [b0,b1] B λ_ b2=>eK hH (mE 56 [(0,(i 6))].toArray) λb3=>
 sA 56 G b3 b2 λb4=>I b4) (bB .eql 3 J (i 8) λb5=>cV b5 (eK hH (mE 56 [(0,(i 7))].toArray) λb6=>sA 56 G b6 B λb7=>I b7) (bB .eql 3 J (i 4) λb8=>
 cV b8 (lA 193 y B λb9=>cF 163 [E,g,b9,al] B λca cb=>sA 56 G ca cb λcc=>I cc) (bB .eql 3 J (i 9) λcd=>cV cd (nC E λce=>fA 96 ce 5 λcf=>lA 41 cf B λcg=>
 iA 41 cg U λch=>sA 3 ch M B λci=>eK hH (mE 56 [(0,(i 10)),(2,U)].toArray) λcj=>sA 56 G cj ci λck=>I ck) (nC E λcl=>fA 96 cl 5 λcm=>
 lA 41 cm B λcn=>iA 41 cn U λco=>lA 3 co B λcp=>bA .neq 3 cp M λcq=>cV cq (cF 158 [E,M,(i 3)] B λcr cs=>sA 56 a cr cs λct=>lA 56 a ct λLg=>K Lg ct) (
 nC E λcu=>fA 96 cu 5 λcv=>lA 41 cv B λcw=>iA 41 cw U λcx=>sA 3 cx (i (-1)) B λcy=>eK hH (mE 56 [(0,(i 11)),(2,U)].toArray) λcz=>sA 56 G cz cy λc0=>
 I c0)))))))))) (λc1=>∀_:Env,
 fA 56 G 1 λc2=>sA 3 c2 M c1 λc3=>cF 164 [g] c3 λ_ c4=>cF 117 [g] c4 λ_ c5=>lA 56 G c5 λc6=>sA 56 a c6 c5 λc7=>lA 56 a c7 λUk=>K Uk c7))))
def P91:dL:=λi=>match i with
 | 5=>(.of [(0,[]),(1,[]),(2,[]),(3,[]),(4,[]),(5,[]),(7,[]),(8,[]),(9,[]),(10,[]),(11,[]),(12,[]),(6,[10,12]),(13,[]),(14,[]),(15,[])])
 | _=>.nil
theorem akB(u B:Value)(h:S91 w K u B):CR 91 [u,B] w K:=
 oe 171 P91 16 [.cell 4 56] Tryz.func91 h
def P90:dL:=λi=>match i with
 | 1=>(.op 0 [] (.op 1 [] (.op 2 [] (.op 3 [] (.op 4 [] (.op 5 [] (.op 6 [] (.op 7 [] (.op 8 [] (.op 9 [] (.op 10 [] (.op 11 [] (.op 12 [] (.alt 13 [] (.of [(14,[]),(15,[]),(16,[]),(17,[3,5,7,10,12]),(18,[]),(19,[])]) (.alt 17 [3,5,7,10,12] (.of [(13,[]),(14,[]),(15,[]),(16,[]),(18,[]),(19,[])]) .stop)))))))))))))))
 | 4=>.run 0 9
 | 8=>.run 0 7
 | _=>.nil
def P56:dL:=λi=>match i with
 | 9=>(.of [(0,[]),(1,[]),(2,[]),(3,[]),(4,[]),(5,[]),(6,[2]),(7,[]),(8,[]),(9,[])])
 | _=>.nil
def P24:dL:=λi=>match i with
 | 1=>.run 0 30
 | _=>.nil
def P68:dL:=λi=>match i with
 | 2=>(.of [(0,[]),(1,[]),(2,[]),(3,[]),(4,[]),(5,[]),(6,[]),(7,[]),(8,[]),(9,[]),(10,[]),(11,[]),(12,[]),(13,[3,7,11]),(14,[])])
 | _=>.nil
def S73(u:Value):Prop:=
 nC u λa=>fA 96 a 4 λb=>lA 93 b w λc=>cF 145 [c] w λd e=>K d e
theorem akC(u:Value)(h:S73 w K u):CR 73 [u] w K:=
 oe 8 (λ_=>.nil) 4 [.tmp 2] Tryz.func73 h
def S70(B:Value):Prop:=
 nC B λa=>fA 96 a 0 λb=>lA 27 b w λc=>cF 54 [c] w λd e=>nC B λf=>fA 96 f 0 λg=>fA 27 g 5 λh=>lA 25 h e λj=>lN 25 j λk=>od (λE G l n=>∀_:Env,
 bA .lss 3 l k λo=>cV o (eH (λK2=>iA 25 j l λp=>lA 85 p n λq=>aL 85 n λO r=>sA 85 O q r λs=>fA 85 O 0 λt=>lA 82 t (drew s) λu=>nC B λv=>fA 96 v 1 λx=>
 lA 91 x (drew s) λy=>eK hH (oa 91 y none (some d) none) λz=>cF 72 [B] (drew s) λY I=>kA 82 t u I (kA 91 x y I (eK hH (oa 41 Y none (some d) none) λac=>
 cF 143 [u,z,ac] I λM J=>xT M 0 λW=>xT M 1 λag=>bB .eql 31 ag (i 0) λU=>cV U (bB .neq 3 W (i 0) λai=>bS 117 1 [(0,ai)] J λaj ak=>aP 117 G aj ak λal am=>
 K2 al am) (bS 117 1 [(0,ff)] J λV Z=>aP 117 G V Z λap aq=>K2 ap aq)))) (λI6 ar=>∀_:Env,
 bB .add 3 l (i 1) λasx=>E I6 asx ar)) (K G n)) (λE=>E (.slice none 0 0) (i 0) e)
def P70:dL:=λi=>match i with
 | 6=>(.of [(0,[]),(1,[]),(2,[]),(3,[]),(4,[]),(5,[]),(6,[]),(7,[]),(8,[]),(10,[]),(9,[1,5]),(11,[]),(12,[]),(13,[]),(14,[]),(15,[]),(16,[]),(17,[])])
 | _=>.nil
theorem akD(u:Value)(h:S70 w K u):CR 70 [u] w K:=
 oe 51 P70 4 [.tmp 2] Tryz.func70 h
def S66(E B:Value):Prop:=
 eH (λG=>bB .lss 3 B (i 0) λa=>cV a (G tt w) (nC E λb=>fA 96 b 6 λc=>lA 94 c w λd=>lN 94 d λe=>bA .geq 3 B e λf=>G f w)) (λg h=>∀_:Env,
 cV g (K (.tuple #[(i 0),ff]) h) (nC E λj=>fA 96 j 6 λk=>lA 94 k h λl=>iA 94 l B λn=>lA 135 n h λo=>cF 137 [o] h λp q=>xT p 0 λr=>xT p 1 λ_=>xT p 2 λ_=>
 xT p 3 λs=>aL 193 q λt u=>sA 193 t r u λv=>fA 193 t 8 λx=>lA 3 x v λy=>K (.tuple #[y,s]) v))
theorem akE(u B:Value)(h:S66 w K u B):CR 66 [u,B] w K:=
 oe 37 (λ_=>.nil) 48 [.tmp 4,.tmp 5] Tryz.func66 h
def S12(p0 J:Value):Prop:=
 qM hH (BF 27 p0) w λp2 a=>lA 27 p2 a λb=>cF 48 [b] a λc d=>xT c 0 λe=>xT c 1 λ_=>bB .neq 31 e (i 0) λf=>cV f (K (.tuple #[(.pointer none),e]) d) (
 cF 49 [J] d λg h=>xT g 0 λ_=>xT g 1 λj=>bB .neq 31 j (i 0) λk=>cV k (K (.tuple #[(.pointer none),j]) h) (lA 27 p2 (drew h) λl=>lA 27 p2 (drew h) λn=>lA 27 p2 (drew h) λo=>
 cF 50 [n] (drew h) λp q=>kA 27 p2 l q (kA 27 p2 o q (cF 51 [o] q λr s=>kA 27 p2 l s (eK hH (mE 96 [(0,l),(1,p),(2,r),(3,J)].toArray) λt=>qM hH (BF 96 t) s λu v=>
 nC u λx=>fA 96 x 1 λy=>lA 91 y v λz=>lN 91 z λaa=>od (λG B I E=>∀_:Env,
 bA .lss 3 I aa λZ=>cV Z (lA 27 p2 E λW=>cF 52 [W,I] E λY ag=>bS 41 1 [(0,Y)] ag λV ai=>aP 41 B V ai λaj ak=>bB .add 3 I (i 1) λal=>G aj al ak) (
 lA 27 p2 (drew E) λam=>lA 27 p2 (drew E) λM=>cF 54 [am] (drew E) λao O=>kA 27 p2 M O (cF 55 [M] O λaq ar=>cF 53 [B,ao,aq] ar λasx au=>xT asx 0 λav=>
 xT asx 1 λ_=>nC u λaw=>fA 96 aw 4 λax=>sA 93 ax av au λU=>fA 27 p2 3 λaz=>lA 24 az U λa0=>cF 56 [u,a0] U λ_ a1=>K (.tuple #[u,(i 0)]) a1))) λG=>G (.slice none 0 0) (i 0) v)))))
def P12:dL:=λi=>match i with
 | 7=>(.of [(0,[]),(1,[]),(3,[]),(5,[]),(2,[0,3]),(4,[0]),(6,[]),(7,[]),(8,[])])
 | 14=>(.of [(0,[]),(1,[]),(2,[]),(4,[]),(3,[4]),(5,[]),(6,[]),(7,[]),(8,[]),(9,[]),(10,[]),(11,[]),(12,[])])
 | _=>.nil
theorem akF(p0 u:Value)(h:S12 w K p0 u):CR 12 [p0,u] w K:=
 oe 69 P12 48 [.tmp 4,.tmp 5] Tryz.func12 h
def S87(E:Value):Prop:=
 lN 41 E λa=>od (λu B b c=>∀_:Env,
 bA .lss 3 b a λd=>cV d (iA 41 E b λe=>lA 3 e c λf=>bB .mul 3 B (i 10000) λg=>bA .add 3 g f λh=>bB .add 3 b (i 1) λj=>u h j c) (K B c)) (λu=>u (i 0) (i 0) w)
theorem akG(u:Value)(h:S87 w K u):CR 87 [u] w K:=
 oe 18 (λ_=>.nil) 4 [.tmp 2] Tryz.func87 h
theorem asd:PL 138:=dJ Tryz.func138
theorem aeY:PL 67:=dJ Tryz.func67
theorem ase:PL 20:=dJ Tryz.func20
theorem ahP:PL 158:=dJ Tryz.func158
theorem asf:PL 160:=dJ Tryz.func160
theorem asg:PL 163:=dJ Tryz.func163
theorem azb:PL 91:=dJ Tryz.func91
theorem azc:PL 90:=dJ Tryz.func90
theorem ash:PL 56:=dJ Tryz.func56
theorem QE:PL 24:=dJ Tryz.func24
theorem azd:PL 88:=dJ Tryz.func88
theorem asi:PL 68:=dJ Tryz.func68
theorem asj:PL 140:=dJ Tryz.func140
theorem akH:PL 72:=dJ Tryz.func72
theorem asl:PL 73:=dJ Tryz.func73
theorem asm:PL 70:=dJ Tryz.func70
theorem akI:PL 66:=dJ Tryz.func66
theorem aeZ:PL 12:=dJ Tryz.func12
theorem aze:PL 87:=dJ Tryz.func87
theorem asn:PL 142:=dJ Tryz.func142
theorem aso:PL 217:=dJ Tryz.func217
end Go.Proofs.YtpdlpabnlkofmaaGreatDoor
namespace Go.Proofs.YtpdlpabnlkofmaaGreatDoor
open Go.Fw
def Ij(B:Int)(u:Int):pr hH (mE 50 [(0,ir B),(1,ir u)].toArray)=some (.agg [ir B,ir u,ir 0,.slice none 0 0].toArray):=by kernel_rfl
def C9(E:Int)(B:Int)(u:Int):pr hH (mE 50 [(0,ir E),(1,ir B),(2,ir u)].toArray)=some (.agg [ir E,ir B,ir u,.slice none 0 0].toArray):=by kernel_rfl
def Ik(E:Int)(B:Option Addr)(u G:Nat):pr hH (mE 50 [(0,ir E),(3,.slice B u G)].toArray)=some (.agg [ir E,ir 0,ir 0,.slice B u G].toArray):=by kernel_rfl
def J8:pr hH (mE 56 [].toArray)=some (.agg [ir 0,ir 0,ir 0,ir 0,ir 0].toArray):=by kernel_rfl
def J9(u:Int):pr hH (mE 56 [(0,ir u)].toArray)=some (.agg [ir u,ir 0,ir 0,ir 0,ir 0].toArray):=by kernel_rfl
def Il(B:Int)(u:Int):pr hH (mE 56 [(0,ir B),(1,ir u)].toArray)=some (.agg [ir B,ir u,ir 0,ir 0,ir 0].toArray):=by kernel_rfl
def tQ(E:Int)(B:Int)(u:Int):pr hH (mE 56 [(0,ir E),(1,ir B),(2,ir u)].toArray)=some (.agg [ir E,ir B,ir u,ir 0,ir 0].toArray):=by kernel_rfl
def zd(E:Int)(B:Int)(u:Int)(G:Int):pr hH (mE 56 [(0,ir E),(1,ir B),(2,ir u),(3,ir G)].toArray)=some (.agg [ir E,ir B,ir u,ir G,ir 0].toArray):=by kernel_rfl
def mY(B:Int)(u:Int):pr hH (mE 56 [(0,ir B),(2,ir u)].toArray)=some (.agg [ir B,ir 0,ir u,ir 0,ir 0].toArray):=by kernel_rfl
def mI(B:Int)(u:Int)(E:Int):pr hH (mE 56 [(0,ir B),(2,ir u),(3,ir E)].toArray)=some (.agg [ir B,ir 0,ir u,ir E,ir 0].toArray):=by kernel_rfl
def ze(E:Int)(u:Int)(B:Int)(G:Int):pr hH (mE 56 [(0,ir E),(2,ir u),(3,ir B),(4,ir G)].toArray)=some (.agg [ir E,ir 0,ir u,ir B,ir G].toArray):=by kernel_rfl
def rI(u:Int)(B:Int):pr hH (mE 56 [(0,ir u),(3,ir B)].toArray)=some (.agg [ir u,ir 0,ir 0,ir B,ir 0].toArray):=by kernel_rfl
def G7(B:Option Addr)(Z3 E:Nat)(Nt:Option Addr)(Z5 M:Nat)(Nu:Option Addr)(Z7 Z8:Nat)(Nv:Option Addr)(Nw Y:Nat)(Ny:Option Addr)(J G:Nat)(I:Option Addr)(Z9 u:Nat)(a1:Option Addr)(Z V:Nat)(U:Option Addr)(n2 O:Nat)(W:Int):pr hH (mE 96 [(0,.agg [.slice B Z3 E,.slice Nt Z5 M,.slice Nu Z7 Z8,.slice Nv Nw Y,.slice Ny J G,.slice I Z9 u].toArray),(1,.slice a1 Z V),(2,.slice U n2 O),(3,ir W)].toArray)=some (.agg [.slice B Z3 E,.slice Nt Z5 M,.slice Nu Z7 Z8,.slice Nv Nw Y,.slice Ny J G,.slice I Z9 u,.slice a1 Z V,.slice U n2 O,ir W,.pointer none,.slice none 0 0,.slice none 0 0,ir 0,ir 0,ir 0].toArray):=by kernel_rfl
def Ka(E:Int)(B:Int)(u:Int):pr hH (mE 114 [(0,ir E),(1,ir B),(2,ir u)].toArray)=some (.agg [ir E,ir B,ir u,.bool false,.bool false].toArray):=by kernel_rfl
def Kb(B:Option Addr)(M:Option Addr)(I G:Nat)(E:Option Addr)(J u:Nat):pr hH (mE 138 [(0,.pointer B),(1,.slice M I G),(2,.slice E J u)].toArray)=some (.agg [.pointer B,.slice M I G,.slice E J u,.slice none 0 0,ir 0].toArray):=by kernel_rfl
def vO(B:Int)(u:Int):pr hH (mE 231 [(0,ir B),(1,ir u)].toArray)=some (.agg [ir B,ir u,ir 0,ir 0].toArray):=by kernel_rfl
def xJ(E:Int)(B:Int)(u:Int)(G:Int):pr hH (mE 231 [(0,ir E),(1,ir B),(2,ir u),(3,ir G)].toArray)=some (.agg [ir E,ir B,ir u,ir G].toArray):=by kernel_rfl
structure gC where
 p:cR
 room:Int
 mem:Mem
 eI:List Int
 l:List jd
 dz:Int
 fault:Int
 iY:Int
structure DA where
 pv:bP
 cv:SV
 kv:SV
 q:Nat
 ov:Value
 fv:Value
 ow:Value
 ll:Value
 ps:List Ptr
@[reducible] def lC(a:DA)(s:gC):List Value:=[jr a.pv.lines,jr a.pv.iP,jr a.pv.eE,jr a.pv.threads,jr a.pv.recover,jr a.pv.dV,jr a.cv,jr a.kv,.int .i64 s.room,.pointer (some ⟨a.q,0,none⟩),a.ow,a.ll,.int .i64 s.dz,.int .i64 s.fault,.int .i64 s.iY]
def ThK(K:hM)(E:cB)(t:cK):Prop:=∃(u B:SV) (rows:List aZ),E=⟨t.name,u,B,t.at_⟩/\(∀w,K w->cZ (λ_=>True) w (jr u) t.dO)/\∀w,q7 K B rows t.body w
def Du(K:hM)(B:List cB)(rF:List cK):Prop:=B.length=rF.length/\∀(j:Nat) (u:cB) (t:cK),B[j]?=some u->rF[j]?=some t->ThK K u t
structure DUK(K:hM)(a:DA)(s:gC):Prop where
 pr:∀w,K w->n5 w a.pv s.p
 cs:∀w,K w->cZ (λ_=>True) w (jr a.cv) (cT s.p)
 ks:∀w,K w->cZ (λ_=>True) w (jr a.kv) (cH s.p)
 mem:∀w,K w->Bi a.ov a.fv s.mem w
 rc:∃vP,(∀w,K w->cZ (λ_=>True) w (jr a.pv.recover) vP)/\Du K vP s.p.recover
abbrev tn(K:hM)(room:Int)(s:Ptr)(t:jd):HP:=qJ K s.b room t
def fm(K:hM)(p:Nat)(m:gC):HP:=oO λa:DA=>fact (DUK K a m) (sep (bX p (lC a m)) (sep (gN a.q a.ov a.fv m.mem) (sep (bF a.ow m.eI) (sep (bF a.ll a.ps) (fR (tn K m.room) a.ps m.l)))))
def mZ(K:hM)(p:Nat)(m:gC)(i:Nat)(tp:Ptr):HP:=oO λa:DA=>fact (DUK K a m/\a.ps[i]?=some tp/\a.ps.length=m.l.length/\i<m.l.length) (sep (bX p (lC a m)) (sep (gN a.q a.ov a.fv m.mem) (sep (bF a.ow m.eI) (sep (bF a.ll a.ps) (nJ (tn K m.room) a.ps m.l i)))))
section
variable {w w' w0:World}{A:Nat->Prop}{R:List HP}{p:Nat}{K:hM}{m:gC}{a:DA}{i:Nat}{tp:Ptr}{t:jd}
theorem fm.open(u:St w0 A (fm K p m::R) w):∃a,DUK K a m/\St w0 A (bX p (lC a m)::gN a.q a.ov a.fv m.mem::bF a.ow m.eI::bF a.ll a.ps::fR (tn K m.room) a.ps m.l::R) w:=by
 obtain⟨a,u⟩:=u.dK;obtain⟨B,u⟩:=u.j4;exact⟨a,B,pS u⟩
theorem fm.shut(B:DUK K a m)(u:St w0 A (bX p (lC a m)::gN a.q a.ov a.fv m.mem::bF a.ow m.eI::bF a.ll a.ps::fR (tn K m.room) a.ps m.l::R) w):St w0 A (fm K p m::R) w:=
 St.dT a (St.l4 B (pU u))
theorem mZ.open(u:St w0 A (mZ K p m i tp::R) w):∃a,(DUK K a m/\a.ps[i]?=some tp/\a.ps.length=m.l.length/\i<m.l.length)/\St w0 A (bX p (lC a m)::gN a.q a.ov a.fv m.mem::bF a.ow m.eI::bF a.ll a.ps::nJ (tn K m.room) a.ps m.l i::R) w:=by
 obtain⟨a,u⟩:=u.dK;obtain⟨B,u⟩:=u.j4;exact⟨a,B,pS u⟩
theorem mZ.shut(B:DUK K a m/\a.ps[i]?=some tp/\a.ps.length=m.l.length/\i<m.l.length)(u:St w0 A (bX p (lC a m)::gN a.q a.ov a.fv m.mem::bF a.ow m.eI::bF a.ll a.ps::nJ (tn K m.room) a.ps m.l i::R) w):St w0 A (mZ K p m i tp::R) w:=
 St.dT a (St.l4 B (pU u))
structure asp(K:hM)(w:World)(p:Nat)(m:gC)(a:DA):Prop where
 uk:DUK K a m
 b:pk w p (lC a m)
 mem:va w a.q m.mem
 ow:cZ (λ_=>True) w a.ow m.eI
 ll:cZ (λ_=>True) w a.ll a.ps
 th:∀(i:Nat) (s:Ptr) (t:jd),a.ps[i]?=some s->m.l[i]?=some t->Has (qJ K s.b m.room t) w
 len:a.ps.length=m.l.length
theorem fm.rd(h:Has (fm K p m) w)(E:K w):∃a,asp K w p m a:=by
 obtain⟨F,u⟩:=h.st
 obtain⟨a,B,u⟩:=fm.open u
 exact⟨a,B,u.hb,D2 u.p1 (B.mem _ E),u.p2.dS,u.p3.dS,λi s t h1 h2=>u.p4.adg h1 h2 (Φ:=λw=>Has (qJ K s.b m.room t) w) λh=>⟨_,h⟩,u.p4.fG⟩
theorem aac{ps:List Ptr}(B:St w0 A (fR (tn K m.room) ps m.l::R) w)(u:ps[i]?=some tp)(ht:m.l[i]?=some t):St w0 A (qJ K tp.b m.room t::nJ (tn K m.room) ps m.l i::R) w:=B.focus u ht
theorem xK(B:St w0 A (qJ K tp.b m.room t::mZ K p m i tp::R) w):St w0 A (fm K p {m with l:=m.l.set i t}::R) w:=by
 obtain⟨a,⟨u,G,E,hi⟩,B⟩:=mZ.open B.p1
 have h1:St w0 A (tn K m.room tp t::nJ (tn K m.room) a.ps m.l i::_) w:=B.p4.p5
 have h2:=h1.DK hi E G
 have h3:=h2.p4.p4.p4.p4
 exact fm.shut (m:={m with l:=m.l.set i t}) ⟨u.pr,u.cs,u.ks,u.mem,u.rc⟩ h3
end
def sQ(m:gC)(t:jd):Bool:=match mG t.bV with
 | none=>false
 | some (x,_,_)=>if t.fault≠0\/x.kind=2 then true else if x.kind=3\/x.kind=5\/x.kind=6\/x.kind=7 then !decide (m.room<=t.buf.length)
  else if x.kind=9/\m.eI.getD (cU (cH m.p) x.name).toNat 0≠-1 then false else decide (t.buf.length=0)
def rz(m:gC)(i:Nat)(t:jd):List cS:=(if sQ m t=true then [⟨1,i,0,[]⟩]else [])++(py t.buf).map λk=>⟨2,i,k,[]⟩
def g8(m:gC)(k:Nat):List cS:=(tg k).flatMap λi=>match m.l[i]? with|some t=>rz m i t|none=>[]
def eW(m:gC):List cS:=if m.fault≠0 then []else g8 m m.l.length
def iG(m:gC):List cS:=if m.fault≠0 then []else(tP m.mem).map λc=>⟨3,0,0,c⟩
theorem uj{m:gC}{k:Nat}{t:jd}(h:m.l[k]?=some t):g8 m (k+1)=g8 m k++rz m k t:=by
 unfold g8;rw[Ju,MA];simp[h]
def aad(t:jd):Prop:=t.fault=0->∀x a b,mG t.bV=some (x,a,b)->(2<=x.kind/\x.kind<=10)/\(eF t x.e).2=true/\(eF t x.f).2=true
structure lX(m:gC):Prop where
 mem:tO m.mem
 th:∀t∈m.l,yx (cT m.p) (cH m.p) t
 tl:m.l.length<=1000
 ow:m.eI.length=(cH m.p).length
 rm:1<=m.room/\m.room<=16
 st:∀t∈m.l,aad t
 pz:PZ m.p
def zX(l:List bH):(py l).length<=l.length:=by grind[py]
def NC(m:gC)(i:Nat)(t:jd):(rz m i t).length<=1+t.buf.length:=by
 have:=zX t.buf
 unfold rz;grind
theorem rA{m:gC}(h:lX m):∀k,(g8 m k).length<=k*1001
 | 0=>by simp[g8]
 | k+1=>by
  have u:=rA h k
  cases ht:m.l[k]? with
  | none=>
   have e:g8 m (k+1)=g8 m k:=by unfold g8;rw[Ju,MA];simp[ht]
   grind
  | some t=>
   rw[uj ht,l0]
   have:=NC m k t
   have:=(h.th t (kO ht)).bl
   omega
def vQ{m:gC}(h:lX m):(eW m).length<=1001000:=by
 unfold eW;split
 .simp
 exact vJ (rA h _) (Nat.mul_le_mul_right 1001 h.tl)
def g9(m:gC)(t:jd)(c:Int):Int:=if (lu t.buf c).isSome=true then(lu t.buf c).getD 0 else jy m.mem c
def dP(m:gC)(x:bM):Int:=cU (cT m.p) x.name
def fD(m:gC)(x:bM):Int:=cU (cH m.p) x.name
def fx(m:gC)(x:bM):Int:=pw m.p (dP m x)
def pW(m:gC)(t:jd)(y:bH):jd:={t with buf:=sI m.room t.buf y}
def xL(m:gC)(t:jd)(x:bM):cA:=⟨if (lu t.buf (dP m x)).isSome=true then 2 else 1,0,dP m x,g9 m t (dP m x),0⟩
def rB(m:gC)(t:jd)(x:bM):gC:=if jy m.mem (dP m x)=(eF t x.e).1 then {m with mem:=fg m.mem (dP m x) (eF t x.f).1}else m
def tS(m:gC)(t:jd)(x:bM):cA:=if jy m.mem (dP m x)=(eF t x.e).1 then⟨8,0,dP m x,jy m.mem (dP m x),(eF t x.f).1⟩else⟨9,0,dP m x,jy m.mem (dP m x),0⟩
def pA(m:gC)(x:bM)(i:Int):gC:={m with eI:=m.eI.set (fD m x).toNat i}
def ea(m:gC)(t:jd)(i:Int)(x:bM):gC×jd×cA:=
 if x.kind=2 then(m,o7 t x.ey (g9 m t (dP m x)),xL m t x)
 else if x.kind=3 then(m,pW m t ⟨3,fx m x,dP m x,(eF t x.e).1⟩,⟨3,0,dP m x,(eF t x.e).1,0⟩)
 else if x.kind=5 then(m,pW m t ⟨5,fx m x,0,0⟩,⟨4,0,fx m x,0,0⟩)
 else if x.kind=6 then(m,pW m t ⟨6,fx m x,0,0⟩,⟨5,0,fx m x,0,0⟩)
 else if x.kind=7 then(m,pW m t ⟨7,0,0,0⟩,⟨6,0,0,0,0⟩)
 else if x.kind=8 then(m,t,⟨7,0,0,0,0⟩)
 else if x.kind=4 then(rB m t x,o7 t x.ey (jy m.mem (dP m x)),tS m t x)
 else if x.kind=9 then(pA m x i,t,⟨10,0,fD m x,0,0⟩)
 else(pA m x (-1),t,⟨11,0,fD m x,0,0⟩)
def um(m:gC)(t:jd)(i:Int)(x:bM):jd:=goD { (ea m t i x).2.1 with bV:=gB (ea m t i x).2.1.bV}
def im(m:gC)(i:Int):gC×cA:=match m.l[i.toNat]? with
 | none=>(m,⟨0,0,0,0,0⟩)
 | some t=>if t.fault≠0 then({m with fault:=t.fault,iY:=i},⟨16,i,t.fault,0,0⟩)else match mG t.bV with
  | none=>(m,⟨0,0,0,0,0⟩)
  | some (x,_,_)=>if x.kind=10/\m.eI.getD (fD m x).toNat 0≠i then({m with fault:=3,iY:=i},⟨16,i,3,0,0⟩)
   else({ (ea m t i x).1 with l:=m.l.set i.toNat (um m t i x)},{ (ea m t i x).2.2 with t:=i})
def tq(m:gC)(t:jd)(q:cS):gC:={m with mem:=jM m.mem (dF t.buf q.i),l:=m.l.set q.t.toNat {t with buf:=jL t.buf q.i}}
def Im(l:List bM):Bk:=(ti l).getD .nil
def wG(t:cK):jd:=⟨t.dO,oz t.dO.length 0,jm (Im t.body) false [],0,[]⟩
def Vf(t:cK):jd:=goD (wG t)
def qP(m:gC)(l:List cK):gC:={m with eI:=oz (cH m.p).length (-1),l:=l.map Vf}
def iS(m:gC)(q:cS):Option (List Int):=if q.kind=3/\q.t=0/\q.i=0/\m.fault=0 then fh m.mem q.cut else none
def o9(m:gC)(u:List Int):gC:={m with mem:=mF m.mem u,dz:=m.dz+1}
def vf(m:gC):List cK:=if m.p.recover.length=0 then [⟨⟨#[]⟩,[],[],0⟩]else m.p.recover
def kx(m:gC)(q:cS):gC×cA×Int:=match iS m q with
 | some u=>(qP (o9 m u) (vf m),⟨15,0,0,qF q.cut q.cut.length,0⟩,0)
 | none=>if (eW m).any (nd q)=true then
   (if q.kind=2 then(match m.l[q.t.toNat]? with|some t=>(tq m t q,tj q.t (dF t.buf q.i),0)|none=>(m,⟨0,0,0,0,0⟩,13))else((im m q.t).1,(im m q.t).2,0))
  else(m,⟨0,0,0,0,0⟩,13)
def mJ(t:jd):Bool:=decide (t.bV.length=0)&&decide (t.buf.length=0)
def qK(m:gC):Bool:=decide (m.fault=0)&&!(tg m.l.length).any λi=>match m.l[i]? with|some t=>!mJ t|none=>false
def vR(m:gC):Bool:=decide (m.fault=0)&&(!qK m&&decide (((eW m).length:Int)=0))
def j9(m:gC):gy:=⟨m.dz,m.fault,m.iY,qK m,vR m⟩
def pa(m:gC)(c:gP):Bool:=decide ((pN (gm m.p) (m.mem.l.take (eL m.p).toNat) c.e).2=0)&&decide ((pN (gm m.p) (m.mem.l.take (eL m.p).toNat) c.e).1≠0)
def Bn(m:gC):List Bool:=m.p.dV.map (pa m)
def Bo(p:cR):List Int:=(tg (cT p).length).map fun (i:Nat)=>pw p (i:Int)
def xM(p:cR)(room:Int):gC:=⟨p,room,J4 (Bo p) (eL p) (fB p),[],[],0,0,0⟩
def Bp(p:cR)(room:Int):gC:=qP (xM p room) p.threads
def C141(K Φ:hM)(p:Nat)(room:Int)(t:jd)(w:World)(J:Has (eJ K Φ p room t) w)(Y:t.buf.length<=1000):CR 141 [.pointer (some ⟨p,0,none⟩)] w (λv w'=>v=.bool (decide (t.buf.length=0))/\Ext w w'):=by
 obtain⟨E,W,rg,pl,es,U,G,I,M,V,O,_⟩:=eJ.rd J;have B:=G.cell (o:=0) rfl;have u:=St.start w;refine fb Tryz.func141 ?_;exact aD (aA mj (bE yG (B.ext u.aF) (dB agn u (C153 E _ _ _ (I.ext u.aF) bL) λ_ _ _ u=>aI fT u.dS (aG ⟨vb (fN.2 bL),u.drop.aF⟩))))
def C138(K Φ:hM)(p:Nat)(m:gC)(q:Nat)(t:jd)(w:World)(hm:Has (fm K p m) w)(J:∀w',Ext w w'->K w')(gJ:lX m)(hh:Has (eJ K Φ q m.room t) w)(CA:t∈m.l):CR 138 [.pointer (some ⟨p,0,none⟩),.pointer (some ⟨q,0,none⟩)] w (λv w'=>v=.bool (sQ m t)/\Ext w w'):=by
 obtain⟨a,I⟩:=fm.rd hm (J _ (Ext.refl _));have W:=I.b.cell (o:=7) rfl;have xN:=I.b.cell (o:=10) rfl;have G:=gJ.th t CA;have GZ:=G.bl;have ae0:(cH m.p).length<=500:=by unfold cH;rw[mW];exact gJ.pz.eE
 have ng:=yw G.p;have Ag:=G.cl;obtain⟨bp,nv,rg,pl,es,hk,Y,hB,zY,Gb,Bm,_⟩:=eJ.rd hh;have OF:=Y.cell (o:=0) rfl;have M:=Y.cell (o:=4) rfl;have u:=St.start w;refine pj Tryz.func138 (pl:=ay8) ?_;refine dR To (C137 K q t bp nv rg pl es _ _ Y Gb Bm J G.p bL) ?_;rintro v _ ⟨he,hv⟩;have u:=u.ext he
 rcases hv with⟨er,rfl⟩|⟨x,xa,xb,xv,av,bv,ra,rb,zW,rfl,zb,_⟩
 .exact aO rfl (aO rfl (aO rfl (aO rfl (aQ u iN λ_ _ u=>aM (x:=(⟨0,⟨#[]⟩,⟨#[]⟩,cG,cG,0,0,0,0⟩:aZ)) u eD rfl rfl λ_ u=>bN (gO ⟨vb (by unfold sQ;rw[er]),u.drop.aF⟩)))))
 obtain⟨ge,gf,rfl,_,_⟩:=iz (zb _ (J _ u.aF));have hx:=(G.top zW).1;have B:sQ m t=(if t.fault≠0\/x.kind=2 then true else if x.kind=3\/x.kind=5\/x.kind=6\/x.kind=7 then !decide (m.room<=t.buf.length)else if x.kind=9/\m.eI.getD (cU (cH m.p) x.name).toNat 0≠-1 then false else decide (t.buf.length=0)):=by unfold sQ;rw[zW]
 refine aO rfl (aO rfl (aO rfl (aO rfl (aQ u iN λb5 w2 u=>aM (x:=(⟨x.kind,x.ey,x.name,ge,gf,x.n,x.body,x.ep,x.at_⟩:aZ)) u eD rfl rfl λw3 u=>bN (eR ?_)))));refine⟨λE w'=>E=.bool (decide (t.fault≠0\/x.kind=2))/\w'=w3,?_,?_⟩
 .exact aD (aA wY (bE bO (M.ext u.aF) (bW (aC (λ_=>⟨vb (ew bL).symm,rfl⟩) λ_=>aA dN (aB (v:=ir x.kind) bO u.hb rfl (aG ⟨vb (fN.2 bL),rfl⟩))))))
 rintro _ w4 ⟨rfl,rfl⟩ _;refine aC (λV=>?_) (λV=>?_)
 .exact⟨vb (by rw[B,ej V]),u.drop.aF⟩
 rw[ei V]at B;refine⟨λE w'=>E=.bool (decide (x.kind=3\/x.kind=5\/x.kind=6\/x.kind=7))/\w'=w4,?_,?_⟩
 .refine aA dN (aB (v:=ir x.kind) bO u.hb rfl ?_);exact aG (aC (λ_=>⟨vb (ew bL).symm,rfl⟩) λ_=>aA dN (aB (v:=ir x.kind) bO u.hb rfl (aG (aC (λ_=>⟨vb (ew bL).symm,rfl⟩) λ_=>aA dN (aB (v:=ir x.kind) bO u.hb rfl (aG (aC (λ_=>⟨vb (ew bL).symm,rfl⟩) λ_=>aA dN (aB (v:=ir x.kind) bO u.hb rfl (aG ⟨vb (fN.2 bL),rfl⟩)))))))))
 rintro _ _ ⟨rfl,rfl⟩ _;refine aC (λU=>?_) (λU=>?_)
 .exact aD (aA mj (bE yG (OF.ext u.aF) (aV agu u (C215 bp _ _ _ (hB.ext u.aF)) λ_ _ u=>bN ⟨vb (by rw[B,ej U]),u.drop.aF⟩)))
 rw[ei U]at B;refine⟨λE w'=>E=.bool (decide (x.kind=9/\m.eI.getD (cU (cH m.p) x.name).toNat 0≠-1))/\St w aX [bX b5 (kp (⟨x.kind,x.ey,x.name,ge,gf,x.n,x.body,x.ep,x.at_⟩:aZ))] w',?_,?_⟩
 .have u:=u.drew;refine aA dN (aB (v:=ir x.kind) bO u.hb rfl (aG (aC (λc3=>?_) λ_=>⟨vb (ez bL).symm,u⟩)));obtain⟨j,hj,Cm,_⟩:=lQ (dM.1 (hx.lk (.inl c3)));have CO:=(kE.1 Cm).1;have how:=gJ.ow;refine aD (aA rh (bE dX (xN.ext u.aF) (aD (aA Jl (bE je (W.ext u.aF) (aA fY (aB (v:=.string x.name) gv u.hb rfl (aV HQ u (C159 _ (cH m.p) x.name _ (I.uk.ks _ (J _ u.aF)) bL) λ_ he u=>?_))))))));refine⟨aH dX (xN.ext u.aF),?_⟩;obtain⟨ov,Tr⟩:=gx m.eI (i:=(cU (cH m.p) x.name).toNat) bL
  refine aK cQ (I.ow.ext u.aF) bL Tr (λq71 Z=>aE bO Z (bW ?_));refine⟨vb (fN.2 ?_),u⟩;rw[oi,Tr];exact⟨λh=>⟨c3,h⟩,λh=>h.2⟩
 rintro _ _ ⟨rfl,u⟩ _;refine aC (λO=>?_) (λO=>?_)
 .exact⟨vb (by rw[B,ej O]),u.drop.aF⟩
 exact aV ahM u (C141 K Φ q m.room t _ (hh.ext u.aF) GZ) (λ_ _ u=>⟨vb (by rw[B,ei O]),u.drop.aF⟩)
def C67(K:hM)(p:Nat)(m:gC)(w:World)(W:Has (fm K p m) w)(Z:∀w',Ext w w'->K w')(I:lX m):CR 67 [.pointer (some ⟨p,0,none⟩)] w (λv w'=>lf (fy v (eW m)) w w'):=by
 obtain⟨a,B⟩:=fm.rd W (Z _ (Ext.refl _));have wH:=B.b.cell (o:=11) rfl;have ND:=B.b.cell (o:=13) rfl;have hlen:=B.len;have Hu:=I.tl;have u:=St.start w;refine fb Tryz.func67 ?_;refine aD (aA vy (bE bO (ND.ext u.aF) (bW (aC (λc=>?_) λc=>?_))))
 .have V:eW m=[]:=by unfold eW;rw[ej c]
  rw[V];exact u.EP.fresh
 have V:eW m=g8 m m.l.length:=by unfold eW;rw[ei c]
 rw[V];refine aD (aA mS (bE zz (wH.ext u.aF) (aI AA (B.ll.ext u.aF) ?_)));refine⟨λE o y G=>∃k:Nat,y=ir (k:Int)/\E=a.ps.length-k/\k<=a.ps.length/\St w aX [fy o (g8 m k)] G,⟨_,0,rfl,rfl,l2 _,u.EP⟩,?_⟩;rintro E o _ G ⟨k,rfl,rfl,hk,u⟩ _;have ng:=rA I k;have RK:k*1001<=1001000:=bL
 refine aN (aC (λc1=>?_) λc1=>?_);rotate_left
 .rw[show k=m.l.length from bL]at u;exact u.fresh
 obtain⟨e,J⟩:=gx a.ps (i:=((k:Nat):Int).toNat) bL;obtain⟨t,ht⟩:=gx m.l (i:=k) bL;have Y:=kO ht;have GZ:=(I.th t Y).bl;have We:=B.th k e t J ht;obtain⟨bp,nv,rg,pl,es,KI,mX,hB,zY,Gb,Bm,_⟩:=eJ.rd We;have OF:=mX.cell (o:=0) rfl;refine aK AA (B.ll.ext u.aF) bL J (λq O=>aE CV O ?_);refine⟨λjv w'=>St w aX [fy jv (g8 m k++(if sQ m t=true then [(⟨1,k,0,[]⟩:cS)]else []))] w',?_,?_⟩
 .refine aV asd u (C138 K _ p m e.b t _ (W.ext u.aF) (λ_ e=>Z _ (u.aF.then e)) I (We.ext u.aF) Y) (λ_ J u=>aW (λM=>?_) λM=>?_)
  .refine pop (Ij 1 (k:Int)) (have u:=u.gE (Φ:=λw=>n5 w (⟨1,(k:Int),0,cG⟩:dC) (⟨1,(k:Int),0,[]⟩:cS)) (λw=>⟨cG,rfl,DL.nil w⟩);ga (x:=(⟨1,(k:Int),0,[]⟩:cS)) (s:=(⟨1,(k:Int),0,cG⟩:dC)) u kB dy λs29 _ u=>fU u.p1 kB (by rw[nh];omega) dy λs30 _ u=>?_);rw[ej M];exact u
  rw[ei (by rw[M];decide),qb];exact u
 rintro o2 _ u _;refine aD (aA mj (bE yG (OF.ext u.aF) (dB anT u (C139 bp _ _ _ (hB.ext u.aF) bL) λU _ cE u=>?_)));have Ag:=zX t.buf;refine aI cQ u.dS ?_;refine⟨λE o y G=>∃j:Nat,y=ir (j:Int)/\E=(py t.buf).length-j/\j<=(py t.buf).length/\St w aX [fy o (g8 m k++(if sQ m t=true then [(⟨1,k,0,[]⟩:cS)]else [])++((py t.buf).take j).map λi=>(⟨2,k,i,[]⟩:cS)),bF U (py t.buf)] G,⟨_,0,rfl,rfl,l2 _,by rw[List.take_zero,aa7,qb];exact u.p1⟩,?_⟩;rintro E o3 _ _ ⟨j,rfl,rfl,hj,u⟩ _;refine aN (aC (λc3=>?_) λc3=>?_)
 .obtain⟨y,hy⟩:=gx (py t.buf) (i:=((j:Nat):Int).toNat) bL;exact aK cQ u.p1.dS bL hy (λ_ O=>aE bO O (pop (C9 2 (k:Int) y) (have u:=u.gE (Φ:=λw=>n5 w (⟨2,(k:Int),y,cG⟩:dC) (⟨2,(k:Int),y,[]⟩:cS)) (λw=>⟨cG,rfl,DL.nil w⟩);ga (x:=(⟨2,(k:Int),y,[]⟩:cS)) (s:=(⟨2,(k:Int),y,cG⟩:dC)) u kB dy λ_ _ u=>fU u.p1 kB (by simp only[l0,mW,l9,nh];split<;>simp<;>omega) dy λ_ _ u=>aJ bL ⟨_,bL,j+1,rfl,rfl,bL,by rw[<- fV (k:=j) hy,<- n4];exact u⟩)))
 rw[la bL]at u;refine aJ bL ?_;refine⟨_,bL,k+1,rfl,rfl,bL,?_⟩;rw[uj ht];unfold rz;rw[<- n4];exact u.p1.drop
def ahQ:PL 227:=dJ Tryz.func227
def azg:PL 53:=dJ Tryz.func53
def C20(K:hM)(p:Nat)(m:gC)(w:World)(Y:Has (fm K p m) w)(hw:∀w',Ext w w'->K w')(gJ:lX m)(mO:MB m.mem 1000000)(O:(dA (ry m.mem)).length<=1000000000):CR 20 [.pointer (some ⟨p,0,none⟩)] w (λv w'=>lf (fy v (iG m)) w w'):=by
 obtain⟨a,G⟩:=fm.rd Y (hw _ (Ext.refl _));have I:=G.b.cell (o:=9) rfl;have ND:=G.b.cell (o:=13) rfl;have Ag:(tP m.mem).length<=1000000000:=vJ (Bl _ _) O;have u:=St.start w;refine akz _ _ _ ?_;unfold S20;refine aD (aA vy (bE bO (ND.ext u.aF) (bW (aC (λc=>?_) λc=>?_))))
 .have M:iG m=[]:=by unfold iG;rw[ej c]
  rw[M];exact u.EP.fresh
 have M:iG m=(tP m.mem).map λc=>(⟨3,0,0,c⟩:cS):=by unfold iG;rw[ei c]
 rw[M];refine aD (aA nQ (bE Dk (I.ext u.aF) (dB avO u (C79 a.q m.mem _ (G.mem.ext u.aF) gJ.mem mO O) λJ W cE u=>?_)));obtain⟨B,u⟩:=u.v8;have Pl:=u.p1.eC.1;refine aI ld u.dS ?_;refine⟨λU o y W=>∃k:Nat,y=ir (k:Int)/\U=B.length-k/\k<=B.length/\St w aX [bF o ((B.take k).map pk3),bF J B,eC (gd B (tP m.mem))] W,⟨_,0,rfl,rfl,l2 _,u.eU (α:=dC)⟩,?_⟩;rintro U o _ _ ⟨k,rfl,rfl,hk,u⟩ _;refine aN (aC (λc1=>?_) λc1=>?_)
 .obtain⟨e,V⟩:=gx B (i:=((k:Nat):Int).toNat) bL;refine aK ld u.p1.dS bL V (λq hq=>aE dX hq (pop (Ik 3 e.a e.n e.cap) (bD ([pk3 e]:List dC) u kB rfl rfl (dQ rfl) λZ _ u=>?_)));have E:=u.dS;exact bJ u.p1 kB E (by rw[mW,l9,nh];omega) dy (λ_ _ u=>aJ bL ⟨_,bL,k+1,rfl,rfl,bL,by rw[<- fV (k:=k) V];exact u.p1.drop⟩)
 rw[la bL]at u;exact(St.xg (u.p1.drop.p1.dH λ_ h=>Tg h).p1).fresh
def C158(K:hM)(p:Nat)(m:gC)(i kind:Int)(F:Nat->Prop)(w:World)(E:(fm K p m).p w F):CR 158 [.pointer (some ⟨p,0,none⟩),ir i,ir kind] w (λv w'=>v=jr (⟨16,i,kind,0,0⟩:cA)/\mT F (fm K p {m with fault:=kind,iY:=i}) w w'):=by
 have u:=St.begin E;refine fb Tryz.func158 ?_;obtain⟨a,B,u⟩:=fm.open u;exact aQ u kf (λ_ _ u=>have u:=u.enc (cs':=kp (⟨0,0,0,0,0⟩:cA)) rfl;aD (aA vy (aR u.p1 bO (dQ rfl) rfl λ_ u=>aD (aA R9 (aR u bO (dQ rfl) rfl λ_ u=>pop (tQ 16 i kind) (aM (x:=(⟨16,i,kind,0,0⟩:cA)) u.p1 eQ rfl rfl λ_ u=>aE eQ u.At ⟨rfl,(fm.shut (m:={m with fault:=kind,iY:=i}) ⟨B.pr,B.cs,B.ks,B.mem,B.rc⟩ u.drop).mut⟩))))))
def C160(K:hM)(p:Nat)(m:gC)(n:Nat)(tp:Ptr)(t:jd)(x:bM)(V:aZ)(F:Nat->Prop)(c:Int)(w:World)(hF:(sep (qJ K tp.b m.room t) (mZ K p m n tp)).p w F)(J:∀w',gD F w w'->K w')(E:yx (cT m.p) (cH m.p) t)(I:tO m.mem)(zb:∀w,K w->n5 w V x)(zY:0<=cU t.names x.ey):CR 160 [.pointer (some ⟨p,0,none⟩),.pointer (some ⟨tp.b,0,none⟩),jr V,ir c] w (λv w'=>v=jr (⟨if (lu t.buf c).isSome=true then 2 else 1,0,c,g9 m t c,0⟩:cA)/\mT F (sep (qJ K tp.b m.room (o7 t x.ey (g9 m t c))) (mZ K p m n tp)) w w'):=by
 have u:=(St.begin hF).split;obtain⟨Y,U,rfl,_,_⟩:=iz (zb _ (J _ u.aF));obtain⟨j,hj,Cm,_⟩:=lQ (dM.1 zY);have CO:=(kE.1 Cm).1;have Wk:=E.nb;have G6:=E.rl;have GZ:=E.bl;refine aeW _ _ _ _ _ _ ?_;unfold S160;refine cP (x:=(⟨x.kind,x.ey,x.name,Y,U,x.n,x.body,x.ep,x.at_⟩:aZ)) u (λb6 _ u=>aQ u kf λb8 _ u=>?_);have u:=(u.enc (cs':=kp (⟨0,0,0,0,0⟩:cA)) rfl).p2;obtain⟨G,nv,rg,pl,es,W,u⟩:=eJ.open u;refine aD (aA mj (aB yG u.hb rfl (aV an6 u (C226 G c m.room t.buf _ (Bh u.p1) bL) λ_ he u=>aO rfl (aO rfl ?_))))
 refine⟨λn9 O w'=>n9=ir (g9 m t c)/\O=ir (if (lu t.buf c).isSome=true then 2 else 1)/\St w F [bX tp.b (qk G nv rg pl t.fault),iR G m.room t.buf,bF rg t.dO,bF pl (J7 es),eC (λw=>vN K w es t.bV/\True),bX b8 (kp (⟨0,0,0,0,0⟩:cA)),bX b6 (kp (⟨x.kind,x.ey,x.name,Y,U,x.n,x.body,x.ep,x.at_⟩:aZ)),mZ K p m n tp] w',?_,?_⟩
 .refine bN (aW (λB=>?_) λB=>?_)
  .have h1:(lu t.buf c).isSome=false:=by simpa using B
   have u:=u.p7;obtain⟨a,Z,u⟩:=mZ.open u;exact aD (aA nQ (aB Dk u.hb rfl (aV ahQ u (ahJ a.q m.mem c _ (D2 u.p1 (Z.1.mem _ (J _ u.aF))) I) λ_ _ u=>aO rfl (aO rfl (have u:=(((((((mZ.shut (m:=m) Z u.p4.p4.p4.p4.p4).p7).p7).p7).p7).p7).p7).p7;⟨by unfold g9;rw[ei (by rw[h1];decide)],by rw[ei (by rw[h1];decide)],u⟩)))))
  have h1:(lu t.buf c).isSome=true:=by simpa using B
  exact⟨by unfold g9;rw[ej h1],by rw[ej h1],u⟩
 rintro _ _ _ ⟨rfl,rfl,u⟩ _;have u:=u.drew;refine aD (aA uG (aB dX u.hb rfl (aD (aA AD (aB je u.hb rfl (aA iC (aB (v:=.string x.ey) gv u.p6.hb rfl (aV HQ u (C159 _ t.names x.ey _ (W _ (J _ u.aF)) bL) λ_ he u=>?_))))))));refine⟨aH dX (u.hb.cell rfl),?_⟩;exact dG u.p2 cQ bL bL (λ_ M=>iM (g9 m t c:Int) u.p2 bO M bL λ_ u=>pop (mI (if (lu t.buf c).isSome=true then 2 else 1) c (g9 m t c)) (aM (x:=(⟨if (lu t.buf c).isSome=true then 2 else 1,0,c,g9 m t c,0⟩:cA)) u.p5 eQ rfl rfl λ_ u=>aE eQ u.At (have u:=eJ.shut (Φ:=λ_=>True) (t:=o7 t x.ey (g9 m t c)) W u.drop.p5.drop.p4.p4.p2.p4.p4;have u:=u.p1.p1;⟨rfl,(St.join u).mut⟩)))
def C163(K:hM)(p:Nat)(m:gC)(n:Nat)(tp:Ptr)(t:jd)(x:bM)(xv:aZ)(F:Nat->Prop)(w:World)(hF:(sep (qJ K tp.b m.room t) (mZ K p m n tp)).p w F)(E:∀w',gD F w w'->K w')(iv:yx (cT m.p) (cH m.p) t)(O:tO m.mem)(zb:∀w,K w->n5 w xv x)(zY:0<=cU t.names x.ey)(mO:MB m.mem 1000000)(V8:x.e.length<=1000/\x.f.length<=1000)(hv1:(eF t x.e).2=true)(hv2:(eF t x.f).2=true):CR 163 [.pointer (some ⟨p,0,none⟩),.pointer (some ⟨tp.b,0,none⟩),jr xv,ir (dP m x)] w (λv w'=>v=jr (tS m t x)/\mT F (sep (qJ K tp.b m.room (o7 t x.ey (jy m.mem (dP m x)))) (mZ K p (rB m t x) n tp)) w w'):=by
 have u:=(St.begin hF).split;obtain⟨ge,W,rfl,_,_⟩:=iz (zb _ (E _ u.aF))
 have QC:∀w,K w->cZ (λ_=>True) w (jr ge) x.e/\cZ (λ_=>True) w (jr W) x.f:=λw Z=>by
  obtain⟨_,_,h4,h5,h6⟩:=iz (zb w Z);cases h4
  exact⟨h5,h6⟩
 obtain⟨j,hj,Cm,_⟩:=lQ (dM.1 zY);have CO:=(kE.1 Cm).1;have Wk:=iv.nb;have G6:=iv.rl;have ht1:{t with fault:=if (eF t x.e).2=true then t.fault else 2}=t:=by rw[hv1];rfl
 have V:{t with fault:=if (eF t x.f).2=true then t.fault else 2}=t:=by rw[hv2];rfl
 obtain⟨c,hc⟩:∃c,c=dP m x:=⟨_,rfl⟩;rw[<- hc];refine aeX _ _ _ _ _ _ ?_;unfold S163;refine cP (x:=(⟨x.kind,x.ey,x.name,ge,W,x.n,x.body,x.ep,x.at_⟩:aZ)) u (λb6 _ u=>aQ u kf λb8 _ u=>?_);have u:=(u.enc (cs':=kp (⟨0,0,0,0,0⟩:cA)) rfl).p3;obtain⟨a,B,u⟩:=mZ.open u;refine aD (aA nQ (aB Dk u.hb rfl (aV ahQ u (ahJ a.q m.mem c _ (D2 u.p1 (B.1.mem _ (E _ u.aF))) O) λ_ he u=>aO rfl (aO rfl (aA iV (aB (v:=jr ge) jo u.p6.hb rfl (have u:=u.p7;aY Nq u (H':=λ_=>qJ K tp.b m.room t) (Φ:=λv _=>v=.tuple #[ir (eF t x.e).1,.bool (eF t x.e).2]) (λI J U=>?_) ?_)))))))
 .have:=C161 K _ tp.b m.room t I _ x.e _ J (λw' hc=>E w' (U w' hc).aF) (QC _ (E _ u.aF)).1 bL bL;rw[ht1]at this;exact this
 rintro _ _ rfl u;refine aO rfl (aO rfl (aA j1 (aB (v:=jr W) jo u.p7.hb rfl (aY Nq u (H':=λ_=>qJ K tp.b m.room t) (Φ:=λv _=>v=.tuple #[ir (eF t x.f).1,.bool (eF t x.f).2]) (λI J U=>?_) ?_))))
 .have:=C161 K _ tp.b m.room t I _ x.f _ J (λw' hc=>E w' (U w' hc).aF) (QC _ (E _ u.aF)).2 bL bL;rw[V]at this;exact this
 rintro _ _ rfl u;refine aO rfl (aO rfl ?_);obtain⟨bp,nv,rg,pl,es,hk,u⟩:=eJ.open u;have u:=u.drew;refine aD (aA uG (aB dX u.hb rfl (aD (aA AD (aB je u.hb rfl (aA iC (aB (v:=.string x.ey) gv u.p11.hb rfl (aV HQ u (C159 _ t.names x.ey _ (hk _ (E _ u.aF)) bL) λ_ he u=>?_))))))));refine⟨aH dX (u.hb.cell rfl),?_⟩;refine dG u.p2 cQ bL bL (λ_ azi=>iM (jy m.mem c:Int) u.p2 bO azi bL λw6' u=>have u:=eJ.shut (Φ:=λ_=>True) (t:=o7 t x.ey (jy m.mem c)) hk u.p4.p4.p2.p4.p4;bW (aC (λM=>?_) λM=>?_))
 .have G:rB m t x=m:=by unfold rB;rw[<- hc,ei M]
  have Y:tS m t x=⟨9,0,c,jy m.mem c,0⟩:=by unfold tS;rw[<- hc,ei M]
  refine pop (mI 9 c (jy m.mem c)) (aM (x:=(⟨9,0,c,jy m.mem c,0⟩:cA)) u.p6 eQ rfl rfl λ_ u=>aE eQ u.At ?_);have u:=(mZ.shut (m:=m) B u.drop.p6.drop.p5.p5.p5.p5.p5).p1;rw[G,Y];exact⟨rfl,(St.join u).mut⟩
 have G:rB m t x={m with mem:=fg m.mem c (eF t x.f).1}:=by unfold rB;rw[<- hc,ej (by simpa using M)]
 have Y:tS m t x=⟨8,0,c,jy m.mem c,(eF t x.f).1⟩:=by unfold tS;rw[<- hc,ej (by simpa using M)]
 refine aD (aA nQ (aB Dk u.p1.hb rfl (have u:=u.p2;aY agp u (H':=λ_=>gN a.q a.ov a.fv (fg m.mem c (eF t x.f).1)) (Φ:=λ_ _=>True) (λI J U=>?_) ?_)))
 .exact(C156 a.q a.ov a.fv m.mem I c _ _ J (λw' hc=>B.1.mem _ (E w' (U w' hc).aF)) O mO).mono λ_ _ r=>r.mono λ_ _ h=>⟨trivial,h.2⟩
 rintro _ _ _ u;refine pop (ze 8 c (jy m.mem c) (eF t x.f).1) (aM (x:=(⟨8,0,c,jy m.mem c,(eF t x.f).1⟩:cA)) u.p6 eQ rfl rfl λ_ u=>aE eQ u.At ?_);have u:=mZ.shut (m:={m with mem:=fg m.mem c (eF t x.f).1}) (⟨⟨B.1.pr,B.1.cs,B.1.ks,λw Z=>(B.1.mem w Z).write,B.1.rc⟩,B.2⟩) u.drop.p6.drop.p5.p5.p5.p3.p5;have u:=u.p1;rw[G,Y];exact⟨rfl,(St.join u).mut⟩
def C87(cv:Value)(cut:List Int)(w:World)(G:cZ (λ_=>True) w cv cut)(U:cut.length<=1000000):CR 87 [cv] w (λv w'=>v=ir (qF cut cut.length)/\Ext w w'):=by
 have u:=St.start w;refine akG _ _ _ ?_;unfold S87;refine aI cQ (G.ext u.aF) ?_;refine⟨λI n x J=>∃k:Nat,n=ir (qF cut k)/\x=ir (k:Int)/\I=cut.length-k/\k<=cut.length/\St w aX [] J,⟨_,0,rfl,rfl,rfl,l2 _,u⟩,?_⟩;rintro I _ _ J ⟨k,rfl,rfl,rfl,O,u⟩ _;refine aN (aC (λV=>?_) λ_=>⟨by rw[show cut.length=k from bL],u.aF⟩);obtain⟨E,B⟩:=gx cut (i:=(k:Int).toNat) bL;exact aK cQ G bL B (λ_ M=>aE bO (M.ext u.aF) (xf (uL (aJ bL ⟨_,bL,k+1,by rw[F7 (k:=k) B],rfl,rfl,bL,u⟩))))
def C88(q x:cS)(W:dC)(b:Nat)(V:dC)(w:World)(hq:n5 w W q)(B:At (λ_=>True) w (.pointer (some ⟨b,0,none⟩)) V)(U:n5 w V x):CR 88 [jr W,(.pointer (some ⟨b,0,none⟩))] w (λv w'=>v=.bool (nd x q)/\Ext w w'):=by
 obtain⟨E,rfl,auM⟩:=hq;obtain⟨I,rfl,M⟩:=U;have u:=St.start w;refine fb Tryz.func88 ?_;refine cP u (λJ _ u=>⟨λZ w'=>Z=.bool (nd x q)/\St w aX [bX J (kp (⟨q.kind,q.t,q.i,E⟩:dC))] w',?_,?_⟩)
 .refine aA qc (aB (v:=ir q.kind) bO u.hb rfl (bT x.kind qc B rfl rfl λ_ O=>aE bO (O.ext u.aF) (aG (aC (λgG=>aA lz (aB (v:=ir q.t) bO u.hb rfl (bT x.t lz B rfl rfl λ_ Y=>aE bO (Y.ext u.aF) (aG (aC (λja=>aA qd (aB (v:=ir q.i) bO u.hb rfl (bT x.i qd B rfl rfl λ_ j8=>aE bO (j8.ext u.aF) (aG (aC (λkM=>?_) λ_=>⟨vb (by unfold nd;first|(simp_all;done)|grind),u⟩))))) λ_=>⟨vb (by unfold nd;first|(simp_all;done)|grind),u⟩))))) λ_=>⟨vb (by unfold nd;first|(simp_all;done)|grind),u⟩))))
  refine bT I nP B rfl rfl (λ_ xj=>aE dX (xj.ext u.aF) ?_);have G:=DL.flat M;exact aI cQ (G.ext u.aF) (aG ⟨vb (by unfold nd;first|(simp_all;done)|grind),u⟩)
 rintro _ _ ⟨rfl,u⟩ _;exact⟨rfl,u.drop.aF⟩
theorem pk.ext{w w':World}{b:Nat}{cs:List Value}(h:pk w b cs)(e:Ext w w'):pk w' b cs:=h.of_eq (e.bX b h.lt λh=>h)
def CB(s:ByteArray)(a:Int)(t:ByteArray):Bool:=decide (a+t.size<=s.size)&&decide (s.extract a.toNat (a+t.size).toNat=t)
def whF(p:UInt8->Bool)(s:ByteArray):Nat->Nat->Nat
 | 0,a=>a
 | n+1,a=>match (iO s)[a]? with
  | some c=>if p c=true then whF p s n (a+1)else a
  | none=>a
def wI(p:UInt8->Bool)(s:ByteArray)(a:Nat):Nat:=whF p s (s.size-a) a
section
variable {p:UInt8->Bool}{s:ByteArray}{k:Nat}{c:UInt8}
theorem Kc(h:s.size<=k):wI p s k=k:=by unfold wI;simp_all[whF]
theorem qQ(h:(iO s)[k]?=some c):k<s.size:=by have:=(kE.1 h).1;rw[eV]at this;exact this
theorem Gc(h:(iO s)[k]?=some c)(B:p c=true):wI p s k=wI p s (k+1):=by
 have u:=qQ h
 unfold wI
 rw[show s.size-k=(s.size-(k+1))+1 from bL,whF,h]
 grind
theorem Gd(h:(iO s)[k]?=some c)(B:p c=false):wI p s k=k:=by
 have u:=qQ h
 unfold wI
 rw[show s.size-k=(s.size-(k+1))+1 from bL,whF,h]
 grind
end
def uq(c:UInt8):Bool:=decide (c.toNat=32\/c.toNat=9\/c.toNat=10\/c.toNat=13)
def xO(c:UInt8):Bool:=decide (c.toNat≠10)
def sR(c:UInt8):Bool:=gA c.toNat||km c.toNat
def wJ(c:UInt8):Bool:=km c.toNat
def lx(s:ByteArray):Nat->Nat->Option Nat
 | 0,_=>none
 | n+1,a=>match (iO s)[a]? with
  | none=>some a
  | some c=>if uq c=true then lx s n (a+1)else if CB s a ⟨#[47,47]⟩=true then lx s n (wI xO s a)else some a
theorem QF{s:ByteArray}{n a r:Nat}(h:lx s n a=some r):∃k,n=k+1:=by
 cases n with
 | zero=>cases h
 | succ k=>grind
section
variable {s:ByteArray}{n a r:Nat}{c:UInt8}
theorem Vg(h:lx s (n+1) a=some r)(u:s.size<=a):r=a:=by
 unfold lx at h;rw[n0 (by rw[eV];exact u)]at h;grind
theorem Da(h:lx s (n+1) a=some r)(hc:(iO s)[a]?=some c)(hb:uq c=true):lx s n (a+1)=some r:=by
 grind[lx]
theorem Io(h:lx s (n+1) a=some r)(hc:(iO s)[a]?=some c)(hb:uq c=false)(u:CB s a ⟨#[47,47]⟩=true):lx s n (wI xO s a)=some r:=by
 grind[lx,wI,xO]
theorem NF(h:lx s (n+1) a=some r)(hc:(iO s)[a]?=some c)(hb:uq c=false)(u:CB s a ⟨#[47,47]⟩=false):r=a:=by
 unfold lx at h;grind
theorem aag:∀(n a:Nat) (p:UInt8->Bool),a<=whF p s n a/\whF p s n a<=max a s.size
 | 0,a,p=>⟨sl _,by unfold whF;omega⟩
 | n+1,a,p=>by
  unfold whF
  cases h:(iO s)[a]? with
  | none=>grind
  | some c=>
   dsimp only
   split
   .have:=aag n (a+1) p;have:=qQ h;omega
   omega
theorem QG(p:UInt8->Bool):a<=wI p s a/\wI p s a<=max a s.size:=aag _ _ _
theorem Bq:∀{n a r:Nat},lx s n a=some r->a<=s.size->a<=r/\r<=s.size
 | 0,_,_,h,_=>by cases h
 | n+1,a,r,h,u=>by
  cases hc:(iO s)[a]? with
  | none=>unfold lx at h;grind
  | some c=>
   have B:=qQ hc
   cases hb:uq c with
   | true=>have:=Bq (Da h hc hb) bL;omega
   | false=>
    cases hr:CB s a ⟨#[47,47]⟩with
    | true=>have h1:=QG (s:=s) (a:=a) xO;have:=Bq (Io h hc hb hr) bL;omega
    | false=>have:=NF h hc hb hr;omega
end
def Dv:List ByteArray:=[⟨#[61,61]⟩,⟨#[33,61]⟩,⟨#[60,61]⟩,⟨#[38,38]⟩,⟨#[124,124]⟩]
def qL(s:ByteArray)(a:Nat)(c:UInt8):Int:=if Dv.any (CB s a)=true then 2 else if (iO (j0 #[40,41,123,125,59,44,61,60,33,43,45,42,47,37])).any (λx=>decide ((x.toNat:Int)=c.toNat))=true then 1 else 0
def tT(l:List bQ)(i:Int)(t:ByteArray):Bool:=decide (0<=i)&&(match l[i.toNat]? with|some x=>decide (x.text=t)&&decide (x.kind≠2)&&decide (1<=x.kind)&&decide (x.kind<=3)|none=>false)
def nq(l:List bQ)(i:Int):Int:=match (if 0<=i then l[i.toNat]? else none)with
 | some x=>x.at_
 | none=>match l.getLast? with
  | some x=>x.at_+x.text.size
  | none=>0
def ae5:∀t∈Dv,t.size<=1000000:=dy
def sS{l:List bQ}{i:Int}{t:ByteArray}(h:tT l i t=true):0<=i/\i<l.length:=by
 unfold tT at h
 grind
def C254(s t:ByteArray)(i:Int)(w:World)(J:s.size<=1000000)(B:t.size<=1000000)(I:0<=i/\i<=2000000):CR 254 [.string s,ir i,.string t] w (λv w'=>v=.bool (CB s i t)/\Ext w w'):=by
 have G:=St.start w;refine fb Tryz.func254 ?_;refine⟨λE w'=>E=.bool (CB s i t)/\w=w',fe hG (aJ bL (fe hG (gu (aC (λ_=>fe hG (aJ bL (LO hG bL bL bL (jz ⟨vb (by unfold CB;grind),rfl⟩)))) λ_=>⟨vb (by unfold CB;grind),rfl⟩)))),?_⟩;rintro _ _ ⟨rfl,u⟩ _;subst u;exact⟨rfl,G.aF⟩
theorem C205(s:ByteArray)(i N r:Nat)(w:World)(hz:s.size<=4000)(h0:i<=s.size)(hr:lx s N i=some r):CR 205 [.string s,ir (i:Int)] w (λv w'=>v=ir (r:Int)/\Ext w w'):=by
 have hz0:=hz;replace hz:s.size<=1000000:=bL
 have u:=St.start w;refine fb Tryz.func205 ?_;refine⟨λE x I=>∃a:Nat,x=ir (a:Int)/\a<=s.size/\lx s E a=some r/\St w aX [] I,⟨N,i,rfl,h0,hr,u⟩,?_⟩;rintro E _ I ⟨a,rfl,ha,G,u⟩ _;obtain⟨k,rfl⟩:=QF G;refine fe hG (aN (aC (λjA=>?_) λjA=>?_))
 .obtain⟨Yp,J⟩:∃W,(iO s)[(a:Int).toNat]?=some W:=⟨_,lU (by rw[eV];omega)⟩;refine jO hG bL J ⟨λZ w'=>Z=.bool (uq Yp)/\I=w',nI (aC (λ_=>⟨vb (by unfold uq;first|exact(ew bL).symm|exact fN.2 bL),rfl⟩) λ_=>nI (aC (λ_=>⟨vb (by unfold uq;first|exact(ew bL).symm|exact fN.2 bL),rfl⟩) λ_=>nI (aC (λ_=>⟨vb (by unfold uq;first|exact(ew bL).symm|exact fN.2 bL),rfl⟩) λ_=>nI ⟨vb (by unfold uq;first|exact(ew bL).symm|exact fN.2 bL),rfl⟩))),?_⟩
  rintro _ _ ⟨rfl,hw⟩ _;subst hw;refine aW (λO=>?_) (λO=>aV agy u (C254 s (j0 #[47,47]) (a:Int) _ hz dy bL) λ_ he u=>aW (λV=>?_) λV=>?_)
  .refine aJ bL ?_;have V9:=qQ J;exact⟨k,bL,a+1,rfl,bL,Da G J O,u⟩
  .refine⟨λE x I=>∃j:Nat,x=ir (j:Int)/\E=s.size-j/\a<=j/\j<=s.size/\wI xO s a=wI xO s j/\St w aX [] I,⟨_,a,rfl,rfl,sl _,ha,rfl,u⟩,?_⟩;rintro E _ w4 ⟨j,rfl,rfl,haj,hj,ie,u⟩ _;refine⟨λZ w'=>Z=.bool (match (iO s)[j]? with|some c=>xO c|none=>false)/\w4=w',fe hG (aN (aC (λlj=>?_) λlj=>⟨vb (by first|(rw[show(iO s)[j]?=some xH from vM];unfold xO;exact fN.2 bL)|(rw[n0 (by rw[eV];omega)])),rfl⟩)),?_⟩
   .obtain⟨xH,vM⟩:∃W,(iO s)[(j:Int).toNat]?=some W:=⟨_,lU (by rw[eV];omega)⟩;exact jO hG bL vM (Xz ⟨vb (by first|(rw[show(iO s)[j]?=some xH from vM];unfold xO;exact fN.2 bL)|(rw[n0 (by rw[eV];omega)])),rfl⟩)
   rintro _ _ ⟨rfl,hw⟩ _;subst hw;refine aW (λB=>?_) (λB=>?_)
   .refine aJ bL ?_
    have U:∃c,(iO s)[j]?=some c/\xO c=true:=by
     cases hc:(iO s)[j]? with
     | none=>rw[hc]at B;cases B
     | some c=>rw[hc]at B;exact⟨c,rfl,B⟩
    obtain⟨cj,Dw,Vh⟩:=U;have CO:=qQ Dw;exact⟨_,bL,j+1,rfl,rfl,bL,bL,ie.trans (Gc Dw Vh),u⟩
   have azl:wI xO s j=j:=by
    by_cases Y:j<s.size
    .obtain⟨cj,U⟩:∃c,(iO s)[j]?=some c:=⟨_,lU (by rw[eV];exact Y)⟩;rw[U]at B;exact Gd U B
    .exact Kc bL
   have M:=Io G J O V;rw[ie,azl]at M;exact⟨k,bL,j,rfl,hj,M,u⟩
  have hx:=NF G J O (by exact_mod_cast V);subst hx;exact⟨rfl,u.aF⟩
 have hx:=Vg G bL;subst hx;exact⟨rfl,u.aF⟩
def C208(s:ByteArray)(i:Nat)(c:UInt8)(w:World)(hz:s.size<=1000000)(hc:(iO s)[i]?=some c):CR 208 [.string s,ir (i:Int)] w (λv w'=>v=ir (qL s i c)/\Ext w w'):=by
 have hi:=qQ hc;have u:=St.start w;refine pj Tryz.func208 (pl:=av8) ?_;refine bD Dv u iu rfl rfl (dQ rfl) (λZ J u=>?_);refine⟨λG x J=>∃k:Nat,x=ir (k:Int)/\G=Dv.length-k/\k<=Dv.length/\(∀y∈Dv.take k,CB s i y=false)/\St w aX [bF Z Dv] J,⟨_,0,rfl,rfl,l2 _,ee,u⟩,?_⟩;rintro G _ _ ⟨k,rfl,rfl,hk,E,u⟩ _;refine aI iu u.dS ?_;have Hu:Dv.length=5:=rfl;refine aN (aC (λxm=>?_) λxm=>?_)
 .obtain⟨SR,I⟩:=gx Dv (i:=(k:Int).toNat) bL;exact dG u iu bL bL (λ_ FL=>fM u gv FL I (aV agy u (C254 s SR (i:Int) _ hz (ae5 _ (kO I)) bL) λ_ _ u=>aW (λik=>⟨gL (n3 .i64) (by unfold qL;rw[ej (gY I ik)]),u.drop.aF⟩) λik=>aJ bL ⟨_,bL,k+1,rfl,rfl,bL,dY E I ik,u⟩))
 have u:=u.drop;refine⟨λG x J=>∃j:Nat,x=ir (j:Int)/\G=(j0 #[40,41,123,125,59,44,61,60,33,43,45,42,47,37]).size-j/\j<=(j0 #[40,41,123,125,59,44,61,60,33,43,45,42,47,37]).size/\(∀y∈(iO (j0 #[40,41,123,125,59,44,61,60,33,43,45,42,47,37])).take j,decide ((y.toNat:Int)=c.toNat)=false)/\St w aX [] J,⟨_,0,rfl,rfl,l2 _,ee,u⟩,?_⟩;rintro G _ _ ⟨j,rfl,rfl,hj,V,u⟩ _;refine fe hG ?_;have GI:(j0 #[40,41,123,125,59,44,61,60,33,43,45,42,47,37]).size=14:=rfl;refine aN (aC (λyV=>?_) λyV=>?_)
 .obtain⟨U,Y⟩:∃M,(iO (j0 #[40,41,123,125,59,44,61,60,33,43,45,42,47,37]))[(j:Int).toNat]?=some M:=⟨_,lU (by rw[eV];omega)⟩;refine jO hG bL Y ?_;obtain⟨u9,o0⟩:∃M,(iO s)[(i:Int).toNat]?=some M:=⟨_,lU (by rw[eV];omega)⟩;refine jO hG bL o0 ?_;obtain rfl:=ob.inj (o0.symm.trans hc);refine nI (aC (λO=>?_) λO=>aJ bL (have u:=u.drew;⟨_,bL,j+1,rfl,rfl,bL,dY V Y (ez O),u⟩));have u:=u.drew;have B:Dv.any (CB s i)=false:=ix (by rw[la bL]at E;exact E)
  exact⟨gL (n3 .i64) (by unfold qL;rw[ei (by rw[B];simp),ej (gY Y (ew O))]),u.aF⟩
 have B:Dv.any (CB s i)=false:=ix (by rw[la bL]at E;exact E);have W:=ix (g:=λx:UInt8=>decide ((x.toNat:Int)=c.toNat)) (by rw[la (by rw[eV];omega)]at V;exact V);exact⟨gL (n3 .i64) (by unfold qL;rw[ei (by rw[B];simp),ei (by rw[W];simp)]),u.aF⟩
def C209(lv:Value)(l:List bQ)(i:Int)(t:ByteArray)(w:World)(E:cZ (λ_=>True) w lv l)(hn:l.length<=1000000):CR 209 [lv,ir i,.string t] w (λv w'=>v=.bool (tT l i t)/\Ext w w'):=by
 have B:=St.start w;refine fb Tryz.func209 ?_;refine⟨λV w'=>V=.bool (tT l i t)/\w=w',cO (aC (λM=>aI fI (E.ext B.aF) (aN (aC (λI=>?_) λI=>⟨vb (by unfold tT;first|(rw[u];grind)|(rw[ez bL];rfl)|(rw[n0 bL];simp)),rfl⟩))) λM=>⟨vb (by unfold tT;first|(rw[u];grind)|(rw[ez bL];rfl)|(rw[n0 bL];simp)),rfl⟩),?_⟩
 .obtain⟨G,u⟩:=gx l (i:=(i).toNat) bL;refine aK fI E bL u (λ_ si=>bT G.text nB si rfl rfl λ_ W=>aE gv (W.ext B.aF) (jz (aC (λik=>?_) λik=>⟨vb (by unfold tT;first|(rw[u];grind)|(rw[ez bL];rfl)|(rw[n0 bL];simp)),rfl⟩)));refine aK fI E bL u (λ_ Y=>?_);exact bT G.kind lH Y rfl rfl (λ_ E9=>aE bO (E9.ext B.aF) (bW (aC (λZ=>aK fI E bL u λ_ O=>bT G.kind lH O rfl rfl λ_ J=>aE bO (J.ext B.aF) (cO (aC (λqZ=>aK fI E bL u λ_ wq=>bT G.kind lH wq rfl rfl λ_ U=>aE bO (U.ext B.aF) (gu ⟨vb (by unfold tT;first|(rw[u];grind)|(rw[ez bL];rfl)|(rw[n0 bL];simp)),rfl⟩)) λqZ=>⟨vb (by unfold tT;first|(rw[u];grind)|(rw[ez bL];rfl)|(rw[n0 bL];simp)),rfl⟩))) λZ=>⟨vb (by unfold tT;first|(rw[u];grind)|(rw[ez bL];rfl)|(rw[n0 bL];simp)),rfl⟩)))
 rintro _ _ ⟨rfl,hw⟩ _;subst hw;exact⟨rfl,B.aF⟩
def C214(lv:Value)(l:List bQ)(i:Int)(w:World)(B:cZ (λ_=>True) w lv l)(hn:l.length<=1000000)(px:∀x∈l,0<=x.at_/\x.at_<=1000000/\x.text.size<=1000000):CR 214 [lv,ir i] w (λv w'=>v=ir (nq l i)/\Ext w w'):=by
 have u:=St.start w;refine pj Tryz.func214 (pl:=awb) ?_;refine⟨λY w'=>Y=.bool (decide (0<=i/\i<l.length))/\w=w',cO (aC (λ_=>aI fI (B.ext u.aF) (aN ⟨yd bL,rfl⟩)) λ_=>⟨Uf bL,rfl⟩),?_⟩;rintro _ _ ⟨rfl,hw⟩ _;subst hw;refine aC (λlg=>?_) (λlg=>aI fI (B.ext u.aF) (aG (aC (λW=>?_) λW=>?_)))
 .obtain⟨V,M⟩:=gx l (i:=(i).toNat) bL;exact aK fI B bL M (λ_ uN=>bT V.at_ lI uN rfl rfl λ_ Z=>aE bO (Z.ext u.aF) ⟨gL (n3 .i64) (by unfold nq;rw[ej bL,M]),u.aF⟩)
 .have G:l=[]:=vq.1 bL;subst G;exact⟨gL (n3 .i64) (by unfold nq;split<;>simp_all),u.aF⟩
 refine aI fI (B.ext u.aF) (fc bL ?_);obtain⟨I,E⟩:=gx l (i:=((l.length:Int)-1).toNat) bL;refine aK fI B bL E (λ_ FM=>bT I.at_ lI FM rfl rfl λ_ uP=>have u:=u.drew;aE bO (uP.ext u.aF) (aI fI (B.ext u.aF) (fc bL (aK fI B bL E λ_ xz=>bT I.text nB xz rfl rfl λ_ U=>aE gv (U.ext u.aF) (fe hG ?_)))));have hax:=px _ (kO E);refine aJ bL ?_;have J:l.getLast? = some I:=by rw[List.getLast?_eq_getElem?,<- E];congr 1;omega
 have O:(if 0<=i then l[i.toNat]? else none)=none:=by split;exact n0 bL;rfl
 exact⟨gL (n3 .i64) (by unfold nq;rw[O,J]),u.aF⟩
end Go.Proofs.YtpdlpabnlkofmaaGreatDoor

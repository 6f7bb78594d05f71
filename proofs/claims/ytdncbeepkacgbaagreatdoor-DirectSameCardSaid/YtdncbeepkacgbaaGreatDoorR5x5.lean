/-
  Part 5.
-/
import Derived.Test.YtdncbeepkacgbaaGreatDoorR5x4
set_option maxHeartbeats 8000000
set_option linter.all false
set_option maxRecDepth 100000
open Go.Fw.Flat renaming val->jj,enc->jl,sz->og,len->wU,pos->X1
open List renaming getElem?_eq_some_iff->j0,length_append->lJ,getElem?_eq_getElem->l0,mem_of_getElem?->ml,length_singleton->mv,take_of_length_le->mH,length_take->n0,length_map->oi,append_assoc->o1,replicate->o6,getD_eq_getElem?_getD->pd,mem_map->pB,getElem?_map->qa,range->qi,mem_cons_self->qs,append_nil->rM,mem_cons_of_mem->so,mem_cons->ta,length_replicate->tr,drop_eq_nil_of_le->xr,getElem?_cons_succ->yv,take_add_one->yC,range_succ->B8,getElem?_take->FC,getElem?_range->Hj,flatMap_append->IM,mem_flatMap->O1,flatMap_cons->P4
open Go.Instr renaming build->mZ,sliceAt->pA,sliceBounds->u1
open Option renaming bind_some->nY,some->o5
open Go.Fw.Deep renaming dr->n4
open Go.Value renaming int->n5,slice->yR,func->zI
open Nat renaming zero_le->ob,le_refl->qQ,le_trans->xL,le_of_ble_eq_true->Et,mul_le_mul_right->FH,mul_pos->ade
open Decidable renaming not_not->DY
open Prod renaming fst->P1,snd->adb
namespace Go.Proofs.YtdncbeepkacgbaaGreatDoor
open Go.Fw
def m4(l:List bH)(c:Int):Option Int:=(l.reverse.find? λx=>decide (x.kind=3/\x.cell=c)).map (·.n)
def C350(y U:Value)(b:Nat)(xs:List bH)(J:Nat->iD)(M:iD)(w:World)(hn:xs.length<=1073741824)
  (G:∀k W,J k W->Cell W b 0 U/\dP (λ_=>True) W U xs) (E:J 0 w)
  (Y:∀k x W,xs.reverse[k]?=some x->J k W->gR hZ y [iE ((xs.length:Int)-1-k),jj x] W λv O=>(v=.bool true/\J (k+1) O)\/(v=.bool false/\M O)) :
  CR 350 [y,.pointer (some ⟨b,0,none⟩)] w (λ_ W=>J xs.length W\/M W):=by
 refine agD _ _ _ _ ?_;unfold S350;refine bN sF (G 0 w E).1 (aK lL (G 0 w E).2 (fO cU ?_));refine⟨λm x B=>∃k:Nat,x=iE ((xs.length:Int)-1-k)/\m=xs.length-k/\k<=xs.length/\J k B,⟨_,0,et,rfl,ob _,E⟩,?_⟩;rintro m _ B ⟨k,rfl,rfl,hk,I⟩ _;refine dC (aC (λc=>?_) λc=>?_)
 .obtain⟨h1,h2⟩:=G k B I;have V:k<xs.length:=cU
  have hx:xs.reverse[k]?=some (xs[xs.length-1-k]'(cU)):=by rw[List.getElem?_reverse V,l0]
  refine bN sF h1 (aW lL h2 cU (x:=xs[xs.length-1-k]'(cU)) (by rw[l0 cU];congr 2;omega) λq hq=>?_);refine aE lP hq ?_;obtain Z:=Y k _ B hx I;refine gR.mono Z ?_;rintro v w2 (⟨rfl,OG⟩|⟨rfl,yZ⟩)
  .exact bJ (eX (fO cU ⟨xs.length-(k+1),cU,k+1,by congr 1;omega,rfl,cU,OG⟩))
  exact bJ (jb (.inr yZ))
 have:k=xs.length:=cU
 subst this;exact .inl I
def C324(B:Value)(w:World)(h1:sg B=true):CR 324 [B] w (λv w'=>∃b,v=.func (.func 350) [].toArray [.pointer (some ⟨b,0,none⟩)].toArray/\mf (bU b [B]) w w'):=by
 have E:=St.start w;refine fD Tryz.func324 ?_;exact ni E h1 (λb _ E=>⟨b,rfl,E.fresh⟩)
theorem YL{α:Type}{p:α->Bool}{l:List α}{k:Nat}{x:α}(I:∀y∈l.take k,p y=false)(J:l[k]?=some x)(M:p x=true):l.find? p=some x:=by
 rw[List.find?_eq_some_iff_getElem]
 have G:=(j0.1 J)
 obtain⟨E,B⟩:=G
 refine⟨M,k,E,B,λj O=>?_⟩
 have:=I (l[j]'(cU)) (List.mem_take_iff_getElem.2 ⟨j,cU,rfl⟩)
 simp[this]
def C259(p:Nat)(c room:Int)(l:List bH)(w:World)(hb:xX w p room l)(hn:l.length<=1048576) :
  CR 259 [.pointer (some ⟨p,0,none⟩),iE c] w (λv w'=>v=.tuple #[iE ((m4 l c).getD 0),.bool (m4 l c).isSome]/\Ext w w'):=by
 obtain⟨sv,A5,Cm,hL⟩:=hb;have E:=St.start w;refine fD Tryz.func259 ?_;refine ni E rfl (λb3 _ E=>gT E qA rfl λb4 _ E=>gT E VK rfl λb5 _ E=>aD (aA lM (bN sF (Cm.ext E.aG) (eC arT (C324 sv _ hL.one) ?_))));rintro _ _ ⟨b,rfl,cA⟩;have E:=E.made cA
 refine zC (cap:=[.pointer (some ⟨b,0,none⟩)]) (xs:=(qi l.length).map fun (k:Nat)=>[n5 .i64 ((l.length:Int)-1-k),jj ((l.reverse[k]?).getD ⟨0,0,0,0⟩)]) ar3 E
  (λk M=>M=[bU b [sv],bU b5 [.bool false],bU b4 [iE 0],bU b3 [iE c]]/\∀y∈l.reverse.take k,decide (y.kind=3/\y.cell=c)=false)
  (λcd M=>cd=.ret/\∃x,m4 l c=some x/\M=[bU b5 [.bool true],bU b4 [iE x]])
  ⟨rfl,et⟩ et ?_ ?_ ?_ ?_ ?_ ?_
 ·
  intro y J Jx W hJ hJe Yh Z;refine(C350 y sv b l J Jx W cU (λk W G=>?_) Yh λk x W I G=>?_).mono λ_ _ r=>r.mono λv W' h=>?_
  .obtain⟨Y,M,⟨rfl,_⟩,hS⟩:=hJ k W G;exact⟨hS.p1.hb.cell rfl,hL.ext hS.aG⟩
  .have O:=(j0.1 I).1;rw[List.length_reverse]at O;have:=Z k [n5 .i64 ((l.length:Int)-1-k),jj x] W (by rw[qa,Hj O];simp[I]) G;exact this
  simpa using h
 ·
  rintro k args Y1 Y2 B Kr M W G ⟨rfl,V⟩ hB hN hR E
  have O:k<l.length:=by
   have:=(j0.1 G).1
   simpa using this
  obtain⟨x,I⟩:∃x,l.reverse[k]?=some x:=⟨_,l0 (by simpa using O)⟩
  have ha:args=[n5 .i64 ((l.length:Int)-1-k),jj x]:=by
   rw[qa,Hj O]at G;simp[I]at G;exact G.symm
  subst ha;dsimp only[Ht];refine aJ E sP (λb7 _ E=>ry E lP rfl er (by simp[sg,iV]) λ_ E=>?_);refine hB _ _ _ E.p1 (λw8 E=>?_);have e7:iV [n5 IntKind.i64 0,iE 0,iE 0,iE 0] 0 [n5 .i64 x.kind,iE x.line,iE x.cell,iE x.n]=jl x:=rfl;refine⟨_,?_,λ_ _ h=>h⟩;refine aA pR (aB bL E.p1.hb rfl (aI ?_))
  have no:¬ (x.kind=3/\x.cell=c)->Kr none w8:=λU=>by
   refine hN _ _ E.p1.drop.p0 ⟨rfl,?_⟩;exact fg V I (by simpa using U)
  refine aC (λc1=>?_) (λc1=>?_)
  .refine aA nu (aB bL E.p1.hb rfl (aB bL E.p5.hb rfl (aI ?_)));intro sQ;refine aC (λc2=>aA mC (aB bL E.p1.hb rfl (aO E.p4 bL (Et rfl) rfl λ_ E=>aO E.p4 HE (Et rfl) rfl λ_ E=>hR _ [bU b5 [.bool true],bU b4 [iE x.n]] _ E.p5.drop.p4.drop.p3.drop.p2 ⟨rfl,x.n,?_,rfl⟩))) (λc2=>no λU=>c2 U.2);unfold m4;rw[YL V I (by simpa using⟨c1,c2⟩)];rfl
  intro sQ;exact eX (no λU=>c1 U.1)
 ·
  rintro D M W ⟨rfl,V⟩ E;refine aO E.p3 bL (Et rfl) rfl (λ_ E=>aO E.p3 HE (Et rfl) rfl λ_ E=>?_);refine HV E.p2 (λw15 E=>?_);refine aB bL E.p1.hb rfl (aB HE E.hb rfl ?_)
  have:m4 l c=none:=by
   unfold m4
   rw[show l.reverse.find? _=none from List.find?_eq_none.2 λy Z=>by
    have:=V y (by rw[mH et];exact Z);simp only[this];exact Bool.false_ne_true]
   rfl
  rw[this];exact⟨rfl,E.aG⟩
 .rintro D M W ⟨_,x,hl,rfl⟩ E;refine HV E (λw15 E=>?_);refine aB bL E.p1.hb rfl (aB HE E.hb rfl ?_);rw[hl];exact⟨rfl,E.aG⟩
 .rintro id D M W ⟨h,_⟩;cases h
 rintro c M ⟨h,_⟩;exact .inr h
def NC{α:Type}{xs ys:List α}{k:Nat}{e f:α}(h:xs.take k=ys.take k)(h1:xs[k]?=some e)(h2:ys[k]?=some f)(B:e=f):xs.take (k+1)=ys.take (k+1):=by
 rw[yC,yC,h,h1,h2,B]
def YM{α:Type}{xs ys:List α}{k:Nat}{e f:α}(h1:xs[k]?=some e)(h2:ys[k]?=some f)(B:¬ e=f):¬ xs=ys:=by
 grind
def C50(room:Int)(w:World):CR 50 [iE room] w (λv w'=>((room<1\/16<room)/\v=.tuple #[.pointer none,iE 1]/\Ext w w')\/(1<=room/\room<=16/\∃b,v=.tuple #[.pointer (some ⟨b,0,none⟩),iE 0]/\mf (lV b room []) w w')):=by
 have B:=St.start w;refine fD Tryz.func50 ?_;refine⟨_,?_,λ_ _ h=>h⟩;refine aV (aC (λE=>?_) λE=>?_)
 .intro G;exact jb (.inl ⟨cU,rfl,B.aG⟩)
 refine eh ?_;intro G;exact aC (λ_=>.inl ⟨cU,rfl,B.aG⟩) (λ_=>pop (aa4 _) (kL B λb _ B=>have B:=(B.eU (α:=bH)).p1;.inr ⟨cU,cU,b,rfl,(lV.shut B).fresh⟩))
def C129(p:Nat)(room:Int)(l:List bH)(w:World)(hb:xX w p room l)(U:l.length<=1048576):CR 129 [.pointer (some ⟨p,0,none⟩)] w (λv w'=>∃b,v=.pointer (some ⟨b,0,none⟩)/\mf (lV b room l) w w'):=by
 have J:=hb;obtain⟨Y,E,V,M⟩:=hb;have B:=St.start w;refine pG Tryz.func129 (pl:=azx) ?_;refine aD (aA Pg (have B:=B.drew;bN bL (E.ext B.aG) (eC aaz (C143 _ _ _ _ (J.ext B.aG) cU) ?_)));rintro _ _ I;have B:=B.made I;refine⟨aF bL (E.ext B.aG),?_⟩;obtain⟨W,O,G,_⟩:=B.fc;subst G;exact pop (S4 _ _ _ _) (kL B λb _ B=>⟨b,rfl,(lV.shut B).fresh⟩)
def C26(O bv:Value)(xs ys:List Int)(w:World)(I:dP (λ_=>True) w O xs)(V:dP (λ_=>True) w bv ys)(hn:xs.length<=1073741824):CR 26 [O,bv] w (λv w'=>v=.bool (decide (xs=ys))/\Ext w w'):=by
 have B:=St.start w;refine pG Tryz.func26 (pl:=P26) ?_;refine aK dZ (I.ext B.aG) (aK dZ (V.ext B.aG) (cN (aC (λ_=>⟨vb (gk (by rintro rfl;omega)).symm,B.aG⟩) λiQ=>?_)));refine⟨λm x U=>∃k:Nat,x=iE (k:Int)/\m=xs.length-k/\k<=xs.length/\xs.take k=ys.take k/\St w bE [] U,⟨_,0,rfl,rfl,ob _,rfl,B⟩,?_⟩;rintro m _ U ⟨k,rfl,rfl,hk,E,B⟩ _;refine aK dZ (I.ext B.aG) (aV (aC (λZ=>?_) λ_=>⟨vb (fY (by rw[mH cU,mH cU]at E;exact E)).symm,B.aG⟩));obtain⟨jN,M⟩:=gx xs (i:=(k:Int).toNat) cU
 refine aW dZ (I.ext B.aG) cU M (λ_ W=>have B:=B.drew;aE bL W ?_);obtain⟨yF,J⟩:=gx ys (i:=(k:Int).toNat) cU;exact aW dZ (V.ext B.aG) cU J (λ_ Y=>aE bL Y (cN (aC (λG=>⟨vb (gk (YM M J G)).symm,B.aG⟩) λG=>aR cU ⟨xs.length-(k+1),cU,k+1,rfl,rfl,cU,NC E M J (DY.1 G),B⟩)))
structure Mem where
 of:List Int
 dD:List Int
 l:List Int
 kept:List Int
 iI:Int->List jS
def ju(of:List Int):Int:=if of.length=0 then 0 else of.getD (of.length-1) 0+1
def Bf(k:List Int)(B:List jS):List Int:=B.foldl (λk w=>k.set w.cell.toNat w.n) k
theorem Du(B:List jS):∀k:List Int,(Bf k B).length=k.length:=by
 induction B with
 | nil=>intro k;rfl
 | cons x B E=>simp_all[Bf]
def YN(B:List jS)(x:jS)(k:List Int):Bf k (B++[x])=(Bf k B).set x.cell.toNat x.n:=by
 unfold Bf;grind
theorem LB{B:List jS}{j:Nat}{x:jS}{k:List Int}(E:B[j]?=some x):Bf k (B.take (j+1))=(Bf k (B.take j)).set x.cell.toNat x.n:=by
 rw[yC,E];exact YN _ _ _
def TZ(m:Mem)(cell:Int):Bool:=decide (0<=cell/\cell<m.l.length)
def gN(m:Mem)(cell n:Int):Mem:=if TZ m cell=true then {m with l:=m.l.set cell.toNat n,iI:=if cell<m.of.length then vJ m.iI (m.of.getD cell.toNat 0) (m.iI (m.of.getD cell.toNat 0)++[⟨cell,n⟩])else m.iI}else m
def YO(m:Mem)(line:Int):Bool:=decide (0<=line/\line<ju m.of)
def sW(m:Mem)(line:Int):Mem:=if YO m line=true then {m with kept:=Bf m.kept (m.iI line),iI:=vJ m.iI line []}else m
structure xg(m:Mem):Prop where
 WI:m.of.length<=m.dD.length
 fl:m.dD.length<=20
 ll:m.l.length=m.dD.length
 kl:m.kept.length=m.of.length
 ofr:∀n∈m.of,0<=n/\n<ju m.of
 lb:ju m.of<=20
 pc:∀k,∀x∈m.iI k,0<=x.cell/\x.cell<m.of.length
def MB(m:Mem)(n:Nat):Prop:=∀k,(m.iI k).length<=n
def fE(p:Nat)(ov fv:Value)(m:Mem):HP:=ph λlv=>ph λkv=>ph λpm=>sep (bU p [ov,fv,lv,kv,.map (some pm)]) (sep (bG lv m.l) (sep (bG kv m.kept) (qB pm m.iI)))
def vR(ov fv:Value)(m:Mem)(w:World):Prop:=dP (λ_=>True) w ov m.of/\dP (λ_=>True) w fv m.dD
def vS(w:World)(p:Nat)(m:Mem):Prop:=∃ov fv lv kv pm,Cell w p 0 ov/\Cell w p 1 fv/\Cell w p 2 lv/\Cell w p 3 kv/\Cell w p 4 (.map (some pm))/\dP (λ_=>True) w ov m.of/\dP (λ_=>True) w fv m.dD/\dP (λ_=>True) w lv m.l/\dP (λ_=>True) w kv m.kept/\vh w pm m.iI
section
variable {w w' w0:World}{A F:Nat->Prop}{R:List HP}{p:Nat}{ov fv lv kv:Value}{m:Mem}{pm:Nat}
theorem vS.ext(h:vS w p m)(e:Ext w w'):vS w' p m:=by
 obtain⟨ov,fv,lv,kv,pm,c0,c1,E,I,G,B,h1,h2,h3,h4⟩:=h
 exact⟨ov,fv,lv,kv,pm,c0.ext e,c1.ext e,E.ext e,I.ext e,G.ext e,B.ext e,h1.ext e,h2.ext e,h3.ext e,h4.ext e⟩
theorem vS.mk'(h:oR w p [ov,fv,lv,kv,.map (some pm)])(B:vR ov fv m w)(h2:dP (λ_=>True) w lv m.l)(h3:dP (λ_=>True) w kv m.kept)(h4:vh w pm m.iI):vS w p m:=
 ⟨ov,fv,lv,kv,pm,h.cell rfl,h.cell rfl,h.cell rfl,h.cell rfl,h.cell rfl,B.1,B.2,h2,h3,h4⟩
theorem fE.open(B:St w0 A (fE p ov fv m::R) w):∃lv kv pm,St w0 A (bU p [ov,fv,lv,kv,.map (some pm)]::bG lv m.l::bG kv m.kept::qB pm m.iI::R) w:=by
 obtain⟨lv,B⟩:=B.dU;obtain⟨kv,B⟩:=B.dU;obtain⟨pm,B⟩:=B.dU
 have h1:=B.split
 have h2:=h1.p1.split
 have h3:=h2.p1.split
 exact⟨lv,kv,pm,h3.p2.p3⟩
theorem fE.shut(B:St w0 A (bU p [ov,fv,lv,kv,.map (some pm)]::bG lv m.l::bG kv m.kept::qB pm m.iI::R) w):St w0 A (fE p ov fv m::R) w:=by
 have h1:St w0 A (sep (bG kv m.kept) (qB pm m.iI)::bU p [ov,fv,lv,kv,.map (some pm)]::bG lv m.l::R) w:=St.join B.p3.p3
 have h2:St w0 A (sep (bG lv m.l) (sep (bG kv m.kept) (qB pm m.iI))::bU p [ov,fv,lv,kv,.map (some pm)]::R) w:=St.join h1.p2
 exact St.dX lv (St.dX kv (St.dX pm (St.join h2.p1)))
theorem xY(B:St w0 A (fE p ov fv m::R) w)(E:vR ov fv m w):vS w p m:=by
 obtain⟨lv,kv,pm,B⟩:=fE.open B
 exact vS.mk' B.hb E B.p1.fc B.p2.fc B.p3.abC
end
def C154(p:Nat)(m:Mem)(w:World)(J:vS w p m)(E:xg m):CR 154 [(.pointer (some ⟨p,0,none⟩))] w (λv w'=>v=iE (ju m.of)/\Ext w w'):=by
 have Z:=J;obtain⟨ov,fv,lv,kv,pm,c0,c1,c2,c3,c4,G,YP,W,O,hP⟩:=J;have V:=E.fl;have Y:=E.WI;have Sw:=E.ll;have Sp:=E.kl;have Su:=E.lb;have B:=St.start w;refine pG Tryz.func154 (pl:=azI) ?_;refine aD (aA wB (bN eD (c0.ext B.aG) (aK dZ (G.ext B.aG) (aI (aC (λ_=>⟨gD (n5 .i64) (by unfold ju;rw[ez cU]),B.aG⟩) λiO=>aD (aA wB (have B:=B.drew;bN eD (c0.ext B.aG) (aD (aA wB (bN eD (c0.ext B.aG) (aK dZ (G.ext B.aG) (fO cU ?_))))))))))));obtain⟨jN,I⟩:=gx m.of (i:=((m.of.length:Int)-1).toNat) cU
 refine aW dZ G cU I (λ_ U=>aE bL (U.ext B.aG) ?_);have M:=E.ofr _ (ml I);exact aR cU ⟨gD (n5 .i64) (by unfold ju;rw[ew cU,pd,show m.of.length-1=((m.of.length:Int)-1).toNat from cU,I];rfl),B.aG⟩
def C260(p:Nat)(m:Mem)(cell:Int)(w:World)(O:vS w p m)(hk:xg m):CR 260 [(.pointer (some ⟨p,0,none⟩)),iE cell] w (λv w'=>v=.tuple #[iE (if TZ m cell=true then m.l.getD cell.toNat 0 else 0),iE (if TZ m cell=true then 0 else 1)]/\Ext w w'):=by
 have I9:=O;obtain⟨ov,fv,lv,kv,pm,c0,c1,U,c3,c4,hO,YP,M,V,hP⟩:=O;have B:=St.start w;refine fD Tryz.func260 ?_;refine⟨λW w'=>W=.bool (decide (cell<0\/m.l.length<=cell))/\w=w',aV (aC (λ_=>⟨Vr cU,rfl⟩) λ_=>aD (aA tM (bN eD (U.ext B.aG) (aK dZ (M.ext B.aG) (dC ⟨Hw cU,rfl⟩))))),?_⟩;rintro _ _ ⟨rfl,Y⟩ _;subst Y;refine aC (λZ=>?_) (λZ=>?_)
 .have G:TZ m cell=false:=by unfold TZ;rw[decide_eq_false_iff_not];omega
  rw[G];exact⟨rfl,B.aG⟩
 refine aD (aA tM (bN eD (U.ext B.aG) ?_));obtain⟨J,E⟩:=gx m.l (i:=cell.toNat) cU;refine aW dZ M cU E (λ_ I=>aE bL (I.ext B.aG) ?_);have G:TZ m cell=true:=by unfold TZ;rw[decide_eq_true_eq];omega
 rw[G,pd,E];exact⟨rfl,B.aG⟩
def C76(p:Nat)(m:Mem)(w:World)(G:vS w p m)(B:xg m):CR 76 [(.pointer (some ⟨p,0,none⟩))] w (λv w'=>mf (bG v m.l) w w'):=by
 have V:=G;obtain⟨ov,fv,lv,kv,pm,c0,c1,O,Y,c4,Z,YP,J,I,hP⟩:=G;have M:=B.fl;have U:=B.WI;have Sw:=B.ll;have Sp:=B.kl;have W:=B.lb;have E:=St.start w;refine fD Tryz.func76 ?_;exact aD (aA tM (bN eD (O.ext E.aG) (cW yq E (C117 _ _ _ (J.ext E.aG) cU) λ_ _ _ E=>E.fresh)))
def C77(p:Nat)(m:Mem)(w:World)(I:vS w p m)(B:xg m):CR 77 [(.pointer (some ⟨p,0,none⟩))] w (λv w'=>mf (bG v m.kept) w w'):=by
 have V:=I;obtain⟨ov,fv,lv,kv,pm,c0,c1,c2,J,Z,Y,YP,O,G,hP⟩:=I;have M:=B.fl;have U:=B.WI;have Sw:=B.ll;have Sp:=B.kl;have W:=B.lb;have E:=St.start w;refine fD Tryz.func77 ?_;exact aD (aA CO (bN eD (J.ext E.aG) (cW yq E (C117 _ _ _ (G.ext E.aG) cU) λ_ _ _ E=>E.fresh)))
def C235(I:Value)(xs:List jS)(w:World)(G:dP (λ_=>True) w I xs)(V:xs.length<=1000000):CR 235 [I] w (λv w'=>mf (bG v xs) w w'):=by
 have B:=St.start w;refine fD Tryz.func235 ?_;refine wJ Tryz.underlying321 (G.ext B.aG) (λp O=>aX (λE=>?_) λE=>?_)
 .have M:=O E;subst M;exact(B.eU (α:=jS)).fresh
 refine bV ([]:List jS) B zA rfl rfl (ei rfl) (λU _ B=>?_);have J:=(G.ext B.aG);exact cK B zA J (by simp;omega) er (λ_ _ B=>B.fresh)
def C159(p:Nat)(ov fv:Value)(m:Mem)(F:Nat->Prop)(cell n:Int)(w:World)(Y:(fE p ov fv m).p w F)(O:∀w',gZ F w w'->vR ov fv m w')(I:xg m)(hb:MB m 1000000):CR 159 [(.pointer (some ⟨p,0,none⟩)),iE cell,iE n] w (λv w'=>v=iE (if TZ m cell=true then 0 else 1)/\ng F (fE p ov fv (gN m cell n)) w w'):=by
 have B:=St.begin Y;obtain⟨lv,kv,pm,B⟩:=fE.open B;have h20:=I.fl;have V9:=I.WI;have Sw:=I.ll;have Sp:=I.kl;have Su:=I.lb;refine pG Tryz.func159 (pl:=azK) ?_;refine⟨λjv w'=>jv=.bool (decide (cell<0\/m.l.length<=cell))/\w=w',aV (aC (λ_=>⟨Vr cU,rfl⟩) λ_=>aD (aA tM (aB eD B.hb rfl (aK dZ B.p1.fc (dC ⟨Hw cU,rfl⟩))))),?_⟩;rintro _ _ ⟨rfl,hw⟩ _;subst hw;refine aC (λV=>?_) (λV=>?_)
 .have B:=B.p3.p3.p3.p3;have J:TZ m cell=false:=by unfold TZ;rw[decide_eq_false_iff_not];omega
  unfold gN;rw[J];exact⟨rfl,(fE.shut B).mut⟩
 have J:TZ m cell=true:=by unfold TZ;rw[decide_eq_true_eq];omega
 refine aD (aA tM (aB eD B.hb rfl ?_));obtain⟨Q7,xZ⟩:=gx m.l (i:=cell.toNat) cU;refine dN B.p1 dZ cU cU (λ_ zY=>jm _ B.p1 bL zY cU λ_ B=>⟨λw'=>St w F [fE p ov fv (gN m cell n)] w',aD (aA wB (aB eD B.p1.hb rfl (aK dZ (O _ B.aG).1 (aV (aC (λnE=>?_) λnE=>?_))))),?_⟩)
 .refine aD (aA wB (aB eD B.p1.hb rfl ?_));obtain⟨M,G⟩:=gx m.of (i:=cell.toNat) cU;refine aW dZ (O _ B.aG).1 cU G (λ_ F4=>aE bL F4 (aD (aA oz (have B:=B.drew;aB uZ B.p1.hb rfl (aD (aA oz (aB uZ B.p1.hb rfl ?_)))))));have Z:=hb M;obtain⟨U,B⟩:=B.p3.Iq (k:=M);refine⟨_,B.p1.EV Tryz.underlying205 qJ AI,?_⟩;refine pop (S8 _ _) (bV ([(⟨cell,n⟩:jS)]) B zA rfl rfl (ei rfl) λas2 _ B=>?_);refine⟨aF uZ (B.p4.hb.cell rfl),?_⟩;refine⟨aF uZ (B.p4.hb.cell rfl),?_⟩
  refine⟨B.p2.EV Tryz.underlying205 qJ AI,?_⟩;have W:=B.fc;refine cK B.p1 zA W (by simp;omega) er (λas3 _ B=>?_);have B:=B.p1.drop;refine⟨aF uZ (B.p3.hb.cell rfl),?_⟩;obtain⟨Ja,rfl⟩:=B.fK;have B:=B.p1.p1;refine FX B Tryz.underlying205 qJ (λ_ B=>?_);have B:=B.p3.p2.p3;have E:gN m cell n={m with l:=m.l.set cell.toNat n,iI:=vJ m.iI M (m.iI M++[⟨cell,n⟩])}:=by unfold gN;rw[ez J,ez cU,pd,G];rfl
  rw[E];exact fE.shut (m:={m with l:=_,iI:=_}) B
 .have B:=B.p3.p3.p2.p3;have E:gN m cell n={m with l:=m.l.set cell.toNat n}:=by unfold gN;rw[ez J,ew cU]
  rw[E];exact fE.shut (m:={m with l:=_,iI:=_}) B
 intro _ B _;exact⟨by rw[J];rfl,B.mut⟩
def WK(m:Mem)(cut:List Int):Bool:=decide ((cut.length:Int)=ju m.of)&&(qi cut.length).all λi=>decide (0<=cut.getD i 0/\cut.getD i 0<=(m.iI i).length)
def Bg(m:Mem)(cut:List Int)(k:Nat):List Int:=(qi k).foldl (λo (i:Nat)=>Bf o ((m.iI i).take (cut.getD i 0).toNat)) m.kept
def iG(m:Mem)(cut:List Int):Option (List Int):=if WK m cut=true then some (Bg m cut cut.length)else none
theorem LC(m:Mem)(cut:List Int)(k:Nat):Bg m cut (k+1)=Bf (Bg m cut k) ((m.iI k).take (cut.getD k 0).toNat):=by
 unfold Bg;rw[B8,List.foldl_append];rfl
theorem xh(m:Mem)(cut:List Int):∀k,(Bg m cut k).length=m.kept.length
 | 0=>rfl
 | k+1=>by rw[LC,Du,xh]
def adz{m:Mem}{cut:List Int}{k:Nat}{c:Int}(hc:cut[k]?=some c)(h:¬ (0<=c/\c<=(m.iI k).length)):iG m cut=none:=by
 unfold iG;grind[WK,Bg]
def adA{m:Mem}{cut:List Int}(h:(cut.length:Int)≠ju m.of):iG m cut=none:=by
 unfold iG WK;grind
def LD{m:Mem}{cut:List Int}(h:(cut.length:Int)=ju m.of)(hc:∀(k:Nat) (c:Int),k<cut.length->cut[k]?=some c->0<=c/\c<=(m.iI k).length):iG m cut=some (Bg m cut cut.length):=by
 unfold iG;grind[WK,Bg]
def YQ:List Nat->List Int->Option (List Int)
 | p::ps,c::cs=>match YQ ps cs with
  | some cs'=>some (c::cs')
  | none=>if c<p then some ((c+1)::o6 cs.length 0)else none
 | _,_=>none
theorem adB:∀{ps:List Nat}{cs:List Int}{i:Nat}{p:Nat}{c:Int},ps[i]?=some p->cs[i]?=some c->YQ (ps.drop (i+1)) (cs.drop (i+1))=none->c<p->
  YQ ps cs=some (cs.take i++(c+1)::o6 (cs.length-(i+1)) 0)
 | E::ps,c'::cs,0,p,c,B,hc,hn,h=>by
  grind[YQ]
 | E::ps,c'::cs,i+1,p,c,B,hc,hn,h=>by
  rw[yv]at B hc
  have:=adB B hc hn h
  simp[YQ,this]
 | [],_,_,_,_,B,_,_,_=>by simp at B
 | _::_,[],_,_,_,_,hc,_,_=>by simp at hc
theorem adC:∀{ps:List Nat}{cs:List Int}{i:Nat}{p:Nat}{c:Int},ps[i]?=some p->cs[i]?=some c->YQ (ps.drop (i+1)) (cs.drop (i+1))=none->¬ c<p->YQ (ps.drop i) (cs.drop i)=none
 | E::ps,c'::cs,0,p,c,B,hc,hn,h=>by
  grind[YQ]
 | E::ps,c'::cs,i+1,p,c,B,hc,hn,h=>by
  rw[yv]at B hc
  have:=adC B hc hn h
  grind
 | [],_,_,_,_,B,_,_,_=>by simp at B
 | _::_,[],_,_,_,_,hc,_,_=>by simp at hc
def Gb(m:Mem)(n:Nat):List Nat:=(qi n).map fun (i:Nat)=>(m.iI i).length
def Jb{m:Mem}{n i:Nat}(h:i<n):(Gb m n)[i]?=some (m.iI i).length:=by
 unfold Gb;rw[qa,Hj h];rfl
def adD(m:Mem)(cut:List Int):Option (List Int):=YQ (Gb m cut.length) cut
def nH(m:Mem)(lx:List Int):Mem:={m with kept:=lx,l:=lx++m.dD.drop lx.length,iI:=λ_=>[]}
def Dv{cs:List Int}{t:Nat}{x:Int}(h:t<cs.length):(cs.take (t+1)++o6 (cs.length-(t+1)) 0).set t x=cs.take t++x::o6 (cs.length-(t+1)) (0:Int):=by
 have e:cs.take (t+1)=cs.take t++[cs[t]]:=by simp_all
 rw[e,o1,List.set_append_right _ _ dH,n0,Nat.min_eq_left (Nat.le_of_lt h),Nat.sub_self]
 rfl
def adE{cs:List Int}{t:Nat}(h:t<cs.length):cs.take t++0::o6 (cs.length-(t+1)) (0:Int)=cs.take t++o6 (cs.length-t) 0:=by
 rw[show cs.length-t=(cs.length-(t+1))+1 from cU,List.replicate_succ]
def C160(p:Nat)(ov fv:Value)(m:Mem)(F:Nat->Prop)(line:Int)(w:World)(hF:(fE p ov fv m).p w F)(hK:∀w',gZ F w w'->vR ov fv m w')(E:xg m)(hb:MB m 1000000):CR 160 [(.pointer (some ⟨p,0,none⟩)),iE line] w (λv w'=>v=iE (if YO m line=true then 0 else 1)/\ng F (fE p ov fv (sW m line)) w w'):=by
 have B:=St.begin hF;obtain⟨lv,kv,pm,B⟩:=fE.open B;have h20:=E.fl;have V9:=E.WI;have Sw:=E.ll;have Sp:=E.kl;have Su:=E.lb;refine pG Tryz.func160 (pl:=azL) ?_;refine⟨λjv w'=>jv=.bool (decide (line<0\/ju m.of<=line))/\St w F [bU p [ov,fv,lv,kv,.map (some pm)],bG lv m.l,bG kv m.kept,qB pm m.iI] w',aV (aC (λ_=>⟨vb (by first|exact(fY cU).symm|exact gv.2 cU),B⟩) λ_=>aY aaC B (C154 _ m _ (vS.mk' B.hb (hK _ B.aG) B.p1.fc B.p2.fc B.p3.abC) E) λ_ _ B=>dC ⟨vb (by first|exact(fY cU).symm|exact gv.2 cU),B⟩),?_⟩
 rintro _ _ ⟨rfl,B⟩ _;refine aC (λY=>?_) (λY=>?_)
 .have B:=B.p3.p3.p3.p3;have I:YO m line=false:=by unfold YO;rw[decide_eq_false_iff_not];omega
  unfold sW;rw[I];exact⟨rfl,(fE.shut B).mut⟩
 refine aD (aA oz (aB uZ B.hb rfl ?_));obtain⟨G,B⟩:=B.p3.Iq (k:=line);refine⟨_,B.p1.EV Tryz.underlying205 qJ AI,?_⟩;have xD:=hb line;refine aK zA B.fc ?_;have B:=B.p3.p3.p4.p4.p4;refine⟨λO x w1=>∃k:Nat,x=iE (k:Int)/\O=(m.iI line).length-k/\k<=(m.iI line).length/\St w F [bG (jj G) (m.iI line),PX pm m.iI line G,bG kv (Bf m.kept ((m.iI line).take k)),bU p [ov,fv,lv,kv,.map (some pm)],bG lv m.l] w1,⟨_,0,rfl,rfl,ob _,B⟩,?_⟩;rintro O _ _ ⟨k,rfl,rfl,FZ,B⟩ _;refine aV (aC (λZ=>?_) λZ=>?_)
 .obtain⟨J,M⟩:=gx (m.iI line) (i:=(k:Int).toNat) cU;refine dN B zA cU cU (λ_ wL=>?_);have hpc:=E.pc line _ (ml M);refine gW B VR wL M (aJ B VS λU _ B=>aH (x:=J) B VR rfl rfl λ_ B=>aD (aA CO (have B:=B.drew;aB eD B.p4.hb rfl (aA Pm ?_))));have V:=Du ((m.iI line).take k) m.kept;refine aB (v:=iE J.cell) bL B.hb rfl (aA Pn (aB (v:=iE J.n) bL B.hb rfl ?_));obtain⟨yG,vT⟩:=gx (Bf m.kept ((m.iI line).take k)) (i:=J.cell.toNat) cU
  exact dN B.p3 dZ cU cU (λ_ tZ=>jm _ B.p3 bL tZ cU λ_ B=>aR cU (have B:=B.p1.drop.p4.p4.p2.p4.p4;⟨_,cU,k+1,rfl,rfl,cU,by rw[LB (j:=k) M];exact B⟩))
 rw[mH cU]at B;refine aD (aA oz (aB uZ B.p3.hb rfl ?_));have B:=B.p1.p1.abD;rw[Yq]at B;refine PY B rfl Tryz.underlying205 qJ (λ_ _ B=>?_);have B:=B.p1.p3.p3;have I:YO m line=true:=by unfold YO;rw[decide_eq_true_eq];omega
 have W:sW m line={m with kept:=Bf m.kept (m.iI line),iI:=vJ m.iI line []}:=by unfold sW;rw[ez I]
 rw[W,I];exact⟨rfl,(fE.shut (m:={m with kept:=_,iI:=_}) B).mut⟩
def C156(p:Nat)(m:Mem)(cut:List Int)(cv:Value)(w:World)(hm:vS w p m)(G:xg m)(hb:MB m 1000000)(V:dP (λ_=>True) w cv cut)(aie:cut.length<=1000):CR 156 [(.pointer (some ⟨p,0,none⟩)),cv] w (λv w'=>(iG m cut=none/\v=.tuple #[.slice none 0 0,iE 1]/\Ext w w')\/∃lx o,iG m cut=some lx/\v=.tuple #[o,iE 0]/\mf (bG o lx) w w'):=by
 have I9:=hm;obtain⟨ov,fv,lv,kv,pm,c0,c1,c2,c3,c4,hO,YP,hL,hKp,hP⟩:=hm;have h20:=G.fl;have V9:=G.WI;have Sw:=G.ll;have Sp:=G.kl;have Su:=G.lb;have B:=St.start w;refine agq _ _ _ _ ?_;unfold S156;refine aK dZ (V.ext B.aG) (aY aaC B (C154 _ m _ (I9.ext B.aG) G) λU he B=>cN (aC (λ_=>.inl ⟨adA cU,rfl,B.aG⟩) λlS=>cW X9 B (C77 _ m _ (I9.ext B.aG) G) λI _ cA B=>aK dZ (V.ext B.aG) ?_));refine⟨λJ x U=>∃k:Nat,x=iE (k:Int)/\J=cut.length-k/\k<=cut.length/\(∀(i:Nat) (c:Int),i<k->cut[i]?=some c->0<=c/\c<=(m.iI i).length)/\St w bE [bG I (Bg m cut k)] U,⟨_,0,rfl,rfl,ob _,λ_ _ h=>absurd h cU,B⟩,?_⟩
 rintro J _ w3 ⟨k,rfl,rfl,FZ,kx,B⟩ _;refine aV (aC (λjX=>?_) λ_=>.inr ⟨_,_,LD cU (λi c _ hc=>kx i c cU hc),rfl,by rw[show cut.length=k from cU];exact B.fresh⟩);obtain⟨E,M⟩:=gx cut (i:=(k:Int).toNat) cU;refine aW dZ V cU M (λ_ Dr=>aE bL (Dr.ext B.aG) ⟨λjv w'=>jv=.bool (decide (E<0\/(m.iI k).length<E))/\w3=w',aV (aC (λ_=>⟨Vr cU,rfl⟩) λ_=>aD (aA oz (bN uZ (c4.ext B.aG) (EU hP B.aG Tryz.underlying205 qJ AI λ_ tZ=>aK zA (tZ.ext B.aG) (eh ⟨Hw cU,rfl⟩))))),?_⟩)
 rintro _ _ ⟨rfl,hw⟩ _;subst hw;refine aC (λ_=>.inl ⟨adz (k:=k) M cU,rfl,B.aG⟩) (λwN=>aD (aA oz (bN uZ (c4.ext B.aG) (EU hP B.aG Tryz.underlying205 qJ AI λY Bz=>?_))));have SA:=hb k;have J4:((m.iI k).take E.toNat).length<=(m.iI k).length:=by rw[n0];omega
 refine oU zA (Bz.ext B.aG) cU cU (λacI IW=>?_);have E2:=IW _ Bz;refine aK zA (E2.ext B.aG) ?_;refine⟨λJ x U=>∃j:Nat,x=iE (j:Int)/\J=((m.iI k).take E.toNat).length-j/\j<=((m.iI k).take E.toNat).length/\St w bE [bG I (Bf (Bg m cut k) (((m.iI k).take E.toNat).take j))] U,⟨_,0,rfl,rfl,ob _,B⟩,?_⟩;rintro J _ _ ⟨j,rfl,rfl,hj,B⟩ _;refine aV (aC (λWb=>?_) λWb=>?_)
 .obtain⟨O,W⟩:=gx ((m.iI (k:Int)).take E.toNat) (i:=(j:Int).toNat) cU;refine aW zA E2 cU W (λ_ Q8=>?_);have hpc:=G.pc k _ (List.mem_of_mem_take (ml W));refine aE VR (Q8.ext B.aG) (aJ B VS λZ _ B=>aH (x:=O) B VR rfl rfl λ_ B=>aA Pm ?_);have hal:=Du (((m.iI k).take E.toNat).take j) (Bg m cut k);have hil:=xh m cut k;refine aB (v:=iE O.cell) bL B.hb rfl (aA Pn (aB (v:=iE O.n) bL B.hb rfl ?_));obtain⟨avf,anA⟩:=gx (Bf (Bg m cut k) (((m.iI k).take E.toNat).take j)) (i:=O.cell.toNat) cU
  exact dN B.p1 dZ cU cU (λ_ Q9=>jm _ B.p1 bL Q9 cU λ_ B=>aR cU (have B:=B.p1.drop;⟨_,cU,j+1,rfl,rfl,cU,by rw[LB (j:=j) W];exact B⟩))
 rw[mH (i:=j) cU]at B;refine aR cU ⟨_,cU,k+1,rfl,rfl,cU,λi c hi hc=>?_,?_⟩
 .by_cases e:i=k
  .subst e;obtain rfl:=o5.inj (hc.symm.trans M);omega
  exact kx i c cU hc
 rw[LC,pd,show cut[k]?=some E from M];exact B
def C155(p:Nat)(m:Mem)(cut:List Int)(cv:Value)(w:World)(Y:vS w p m)(hk:xg m)(hb:MB m 1000000)(hC:dP (λ_=>True) w cv cut)(aie:cut.length<=1000)(A5:∀c∈cut,0<=c):CR 155 [(.pointer (some ⟨p,0,none⟩)),cv] w (λv w'=>(adD m cut=none/\v=.tuple #[.slice none 0 0,.bool false]/\Ext w w')\/∃c o,adD m cut=some c/\v=.tuple #[o,.bool true]/\mf (bG o c) w w'):=by
 have I9:=Y;obtain⟨ov,fv,lv,kv,pm,c0,c1,c2,c3,c4,hO,YP,hL,hKp,hP⟩:=Y;have B:=St.start w;refine agp _ _ _ _ ?_;unfold S155;refine cW yq B (C117 _ _ _ (hC.ext B.aG) cU) (λx9 Z cA B=>?_);have W:cut.length=cut.length:=rfl;refine aK dZ B.fc (fO cU ?_);refine⟨λmm x Z=>∃t:Nat,x=iE ((t:Int)-1)/\mm=t/\t<=cut.length/\YQ ((Gb m cut.length).drop t) (cut.drop t)=none/\St w bE [bG x9 (cut.take t++o6 (cut.length-t) 0)] Z,⟨_,cut.length,rfl,rfl,qQ _,by rw[xr (qQ _)];cases (Gb m cut.length).drop cut.length<;>rfl,by simpa using B⟩,?_⟩
 rintro t _ _ ⟨_,rfl,rfl,ht,J,B⟩ _;refine dC (aC (λky=>?_) λ_=>.inl ⟨by unfold adD;rw[show t=0 from cU]at J;simpa using J,rfl,B.drop.aG⟩);have W:(cut.take t++o6 (cut.length-t) 0).length=cut.length:=by rw[lJ,n0,tr];omega
 obtain⟨O,V⟩:=gx (cut.take t++o6 (cut.length-t) 0) (i:=((t:Int)-1).toNat) cU;refine dN B dZ cU cU (λ_ kW=>?_);have B:=B.drew
 have E:cut[t-1]?=some O:=by
  have:=V;rw[show((t:Int)-1).toNat=t-1 from cU,List.getElem?_append_left (by rw[n0];omega),FC,ez cU]at this;exact this
 have hx0:=A5 _ (ml E);have he:=rfl (a:=O);refine gW B bL kW V (aD (aA oz (bN uZ (c4.ext B.aG) (EU hP B.aG Tryz.underlying205 qJ AI λM zZ=>aK zA (zZ.ext B.aG) (aV (aC (λQS=>?_) λQS=>?_))))))
 .refine dN B dZ cU cU (λ_ yz=>gW B bL yz V ?_);have U:=hb ((t:Int)-1);refine aR cU (dN B dZ cU cU λ_ tZ=>jm _ B bL tZ cU λ_ B=>?_);refine .inr ⟨_,_,adB (i:=t-1) (Jb cU) E (by rw[show t-1+1=t from cU];exact J) (by rw[show((t-1:Nat):Int)=(t:Int)-1 from cU];omega),rfl,?_⟩;rw[he,show((t:Int)-1).toNat=t-1 from cU]at B;have G:=Dv (cs:=cut) (t:=t-1) (x:=O+1) cU;rw[show t-1+1=t from cU]at G |-;rw[G]at B;exact B.fresh
 have U:=hb ((t:Int)-1);refine dN B dZ cU cU (λ_ F4=>jm _ B bL F4 cU λ_ B=>fO cU ?_);refine⟨_,cU,t-1,by congr 1;omega,rfl,cU,adC (i:=t-1) (Jb cU) E (by rw[show t-1+1=t from cU];exact J) (by rw[show((t-1:Nat):Int)=(t:Int)-1 from cU];omega),?_⟩;rw[show((t:Int)-1).toNat=t-1 from cU]at B;have G:=Dv (cs:=cut) (t:=t-1) (x:=0) cU;rw[show t-1+1=t from cU]at G;rw[G]at B;have I:=adE (cs:=cut) (t:=t-1) cU;rw[show t-1+1=t from cU]at I;rw[I]at B
 exact B
def C81(p:Nat)(ov fv:Value)(m:Mem)(F:Nat->Prop)(cut:List Int)(cv:Value)(w:World)(hF:(fE p ov fv m).p w F)(W:∀w',gZ F w w'->vR ov fv m w')(G:xg m)(hb:MB m 1000000)(Z:∀w',gZ F w w'->dP (λ_=>True) w' cv cut)(aie:cut.length<=1000):CR 81 [(.pointer (some ⟨p,0,none⟩)),cv] w (λv w'=>(iG m cut=none/\v=iE 1/\ng F (fE p ov fv m) w w')\/∃lx,iG m cut=some lx/\v=iE 0/\ng F (fE p ov fv (nH m lx)) w w'):=by
 have B:=St.begin hF;obtain⟨lv,kv,pm,B⟩:=fE.open B;have h20:=G.fl;have V9:=G.WI;have Sw:=G.ll;have Y:=G.kl;have Su:=G.lb;refine pG Tryz.func81 (pl:=P81) ?_;refine eC ajG (C156 _ m cut _ _ (vS.mk' B.hb (W _ B.aG) B.p1.fc B.p2.fc B.p3.abC) G hb (Z _ B.aG) cU) ?_;rintro U _ V
 rcases V with⟨E,rfl,he⟩|⟨O,J,E,rfl,cA⟩
 .have B:=B.ext he;exact aN rfl (aN rfl (cN (u5 er (have B:=B.p3.p3.p3.p3;.inl ⟨E,rfl,(fE.shut B).mut⟩))))
 have B:=B.made cA;refine aN rfl (aN rfl (cN (gu er (aD (aA CO (aO B.p1 eD (ei rfl) B.fc.one λ_ B=>aD (aA tM (have B:=B.drew;aB eD B.hb rfl (aD (aA Ph (aB eD B.hb rfl ?_)))))))))));refine Qa B.p2 dZ (W _ B.aG).2 cU (λ_ B=>aD (aA tM (aB eD B.p1.hb rfl (Qa B dZ B.p2.fc (by rw[lJ,List.length_drop];have M:O.length=m.of.length:=(by unfold iG at E;split at E<;>simp at E;rw[<- E,xh];exact Y);omega) λ_ B=>qc (α:=jS) B λI _ B=>aD (aA oz (aO B.p2 uZ (ei rfl) (rfl) λ_ B=>?_))))))
 have B:=B.p4.drop.p4.drop.p1.p3.p3.p3;have M:O.length=m.of.length:=by unfold iG at E;split at E<;>simp at E;rw[<- E,xh];exact Y
 rw[show m.l.drop m.dD.length=[]from xr cU,rM]at B;exact .inr ⟨_,E,rfl,(fE.shut (m:=nH m O) B).mut⟩
def Kw(of:List Int)(stays:Int)(dD:List Int):Mem:=⟨of.take stays.toNat,dD,dD,dD.take stays.toNat,λ_=>[]⟩
def eN:List Nat->List (List Int)
 | []=>[[]]
 | p::ps=>(qi (p+1)).flatMap fun (i:Nat)=>(eN ps).map λt=>(i:Int)::t
theorem ya:∀ps,(eN ps).head? = some (o6 ps.length 0)
 | []=>rfl
 | p::ps=>by
  have B:=ya ps
  rw[eN,List.range_succ_eq_map,P4]
  cases h:eN ps with
  | nil=>grind
  | cons t ts=>
   grind
theorem rR:∀{ps:List Nat}{c:List Int},c∈eN ps->c.length=ps.length
 | [],c,h=>by simp[eN]at h;grind
 | p::ps,c,h=>by
  simp only[eN,O1,pB]at h
  obtain⟨i,_,t,ht,rfl⟩:=h
  simp[rR ht]
theorem LF:∀{ps:List Nat}{c:List Int}{i p:Nat}{n:Int},c∈eN ps->ps[i]?=some p->c[i]?=some n->0<=n/\n<=p
 | [],c,i,p,n,h,B,_=>by simp at B
 | q::ps,c,i,p,n,h,B,hc=>by
  simp only[eN,O1,pB,List.mem_range]at h
  obtain⟨j,E,t,ht,rfl⟩:=h
  cases i with
  | zero=>grind
  | succ i=>
   rw[yv]at B hc
   exact LF ht B hc
theorem vU{α β:Type}{f:α->List β}:∀{l:List α}{d:List β}{c:β}{r:List β},l.flatMap f=d++c::r->∃l1 x l2 E B,l=l1++x::l2/\f x=E++c::B/\r=B++l2.flatMap f
 | [],d,c,r,h=>by simp at h
 | x::l,d,c,r,h=>by
  rw[P4]at h
  rcases List.append_eq_append_iff.1 h with⟨M,h1,h2⟩|⟨I,h1,h2⟩
  .obtain⟨l1,y,l2,E,B,e1,J,G⟩:=vU h2
   grind
  .cases I with
   | nil=>
    obtain⟨l1,y,l2,E,B,e1,J,G⟩:=vU (f:=f) (l:=l) (d:=[]) (c:=c) (r:=r) dH
    grind
   | cons y ys=>
    simp at h2
    exact⟨[],x,l,d,ys,rfl,dH,h2.2⟩
def Ra{n:Nat}{l1 l2:List Nat}{x:Nat}(h:qi n=l1++x::l2):x<n/\l2.head? = if x+1<n then some (x+1)else none:=by
 have G:(qi n)[l1.length]?=some x:=dH
 have B:l1.length<n:=dH
 have E:x=l1.length:=dH
 refine⟨cU,?_⟩
 have h2:(qi n)[l1.length+1]?=l2.head?:=by
  rw[h,List.getElem?_append_right cU,show l1.length+1-l1.length=1 from cU,yv]
  cases l2<;>rfl
 grind
theorem WM:∀{ps:List Nat}{d:List (List Int)}{c:List Int}{r:List (List Int)},eN ps=d++c::r->YQ ps c=r.head?
 | [],d,c,r,h=>by
  simp[eN]at h
  cases d with
  | nil=>grind[YQ]
  | cons x d=>simp at h
 | p::ps,d,c,r,h=>by
  rw[eN]at h
  obtain⟨l1,x,l2,U,Y,e1,O,J⟩:=vU h
  obtain⟨Z,G⟩:=Ra e1
  obtain⟨a,b,I,hb,hc⟩:=List.map_eq_append_iff.1 O
  obtain⟨t,ts,rfl,B,E⟩:=List.map_eq_cons_iff.1 hc
  subst B
  have M:=WM I
  rw[J,<- E]
  show(match YQ ps t with|some cs'=>some ((x:Int)::cs')|none=>if (x:Int)<p then some (((x:Int)+1)::o6 t.length 0)else none)=_
  rw[M]
  cases ts with
  | cons t' ts=>rfl
  | nil=>
   simp only[List.head?_nil,List.map_nil,List.nil_append]
   cases l2 with
   | nil=>
    simp_all
   | cons y l2=>
    simp only[List.head?_cons]at G
    split at G
    .obtain rfl:=o5.inj G
     rw[ez cU,P4]
     have V:t.length=ps.length:=rR (ps:=ps) dH
     have W:=ya ps
     simp_all
    grind
def Rb(f:List Int->List Int)(l:List (List Int)):List (List Int)×List (List Int):=l.foldl (λs c=>if f c∈s.2 then s else(s.1++[c],s.2++[f c])) ([],[])
theorem Rc(f:List Int->List Int)(l:List (List Int))(c:List Int):Rb f (l++[c])=if f c∈(Rb f l).2 then Rb f l else((Rb f l).1++[c],(Rb f l).2++[f c]):=by
 unfold Rb;grind
theorem Jc(f:List Int->List Int):∀(l:List (List Int)) (s:List (List Int)×List (List Int)),(l.foldl (λs c=>if f c∈s.2 then s else(s.1++[c],s.2++[f c])) s).1.length<=s.1.length+l.length
 | [],s=>qQ _
 | c::l,s=>by
  rw[List.foldl_cons]
  refine xL (Jc f l _) ?_
  grind
def NF(f:List Int->List Int)(l:List (List Int)):(Rb f l).1.length<=l.length:=by
 have h:(Rb f l).1.length<=([]:List (List Int)).length+l.length:=Jc f l ([],[])
 grind
def avg(xs:List Int):List Int:=xs++o6 (20-xs.length) 0
def ug(m:Mem)(c:List Int):List Int:=avg (Bg m c c.length)
def Ca(m:Mem):List Nat:=Gb m (ju m.of).toNat
def yH(m:Mem):List (List Int):=(Rb (ug m) (eN (Ca m))).1
theorem Dw(m:Mem):(Ca m).length=(ju m.of).toNat:=by unfold Ca Gb;simp
def LG{m:Mem}(E:xg m):0<=ju m.of:=by
 unfold ju;split
 .omega
 rename_i h
 have B:m.of.getD (m.of.length-1) 0∈m.of:=dH
 have:=(E.ofr _ B).1
 omega
def anD{m:Mem}(E:xg m){c:List Int}(h:c∈eN (Ca m)):(c.length:Int)=ju m.of/\iG m c=some (Bg m c c.length)/\(∀n∈c,0<=n):=by
 have G:=rR h
 rw[Dw]at G
 have B:=LG E
 have hb:∀(k:Nat) (n:Int),k<c.length->c[k]?=some n->0<=n/\n<=(m.iI k).length:=λk n I hc=>by
  have:=LF h (i:=k) (p:=(m.iI k).length) (by unfold Ca;exact Jb cU) hc
  exact this
 refine⟨cU,LD cU hb,λn B=>?_⟩
 obtain⟨i,hi,rfl⟩:=List.getElem_of_mem B
 exact(hb i _ hi (l0 hi)).1
theorem Rd{m:Mem}{d:List (List Int)}{c:List Int}{r:List (List Int)}(h:eN (Ca m)=d++c::r):adD m c=r.head?:=by
 have B:c.length=(Ca m).length:=rR dH
 rw[Dw]at B
 unfold adD
 rw[B];exact WM h
def aif(v:Value):List (List Int)->HP
 | []=>emp
 | c::_=>bG v c
def aif.nil{w w0:World}{A:Nat->Prop}{L:List HP}{v:Value}(B:St w0 A L w):St w0 A (aif v []::L) w:=B.new (Ext.refl w) (H:=emp) (F:=bE) (λ_ h=>h) λ_ h=>h.elim
theorem LH(ps:List Nat):eN ps=o6 ps.length 0::(eN ps).tail:=by
 have:=ya ps
 cases h:eN ps with
 | nil=>grind
 | cons x xs=>grind
def T1:Qc hZ 20 259 3:=⟨Tryz.underlying259,qJ,(kK bL).2⟩
def C54(of dD:List Int)(stays:Int)(av bv:Value)(w:World)(G:dP (λ_=>True) w av of)(M:dP (λ_=>True) w bv dD)(hlen:of.length=dD.length)(h20:of.length<=20)(gG:0<=stays/\stays<=of.length)(Z0:∀(k:Nat) (n:Int),(k:Int)<stays->of[k]?=some n->(n=kY of k\/(0<k/\n=kY of k-1))/\-10<=n/\n<=100):CR 54 [av,iE stays,bv] w (λv w'=>∃(p:Nat) (ov fv:SV),v=.tuple #[.pointer (some ⟨p,0,none⟩),iE 0]/\mf (sep (bG (jj ov) (of.take stays.toNat)) (sep (bG (jj fv) dD) (fE p (jj ov) (jj fv) (Kw of stays dD)))) w w'):=by
 have B:=St.start w;refine fD Tryz.func54 ?_;refine⟨λjv w'=>jv=.bool (decide (of.length≠dD.length\/20<of.length\/stays<0\/of.length<stays))/\w=w',aK dZ (G.ext B.aG) (aK dZ (M.ext B.aG) (cN (aC (λ_=>⟨Vr cU,rfl⟩) λ_=>aK dZ (G.ext B.aG) (eh (aC (λ_=>⟨Vr cU,rfl⟩) λ_=>aV (aC (λ_=>⟨Vr cU,rfl⟩) λ_=>aK dZ (G.ext B.aG) (eh ⟨Hw cU,rfl⟩))))))),?_⟩;rintro _ w1 ⟨rfl,hw⟩ _;subst hw;refine aC (λu9=>absurd u9 cU) (λu9=>oU dZ (G.ext B.aG) cU cU λs_x34 Z=>?_);have J:=Z _ G
 refine aK dZ (J.ext B.aG) ?_;refine⟨λmm l x w1=>∃(k:Nat) (last:Int),l=iE last/\x=iE (k:Int)/\mm=(of.take stays.toNat).length-k/\k<=(of.take stays.toNat).length/\last=kY of k-1/\-200<=last/\last<=200/\St w bE [] w1,⟨_,0,-1,rfl,rfl,rfl,ob _,rfl,cU,cU,B⟩,?_⟩;rintro mm _ _ w2 ⟨k,last,rfl,rfl,rfl,FZ,ak6,hl7,hl8,B⟩ _;have J4:(of.take stays.toNat).length=stays.toNat:=by rw[n0];omega
 refine aV (aC (λwN=>?_) λwN=>?_)
 .obtain⟨I,sm⟩:=gx (of.take stays.toNat) (i:=(k:Int).toNat) cU;refine aW dZ J cU sm (λ_ Di=>?_)
  have E:of[k]?=some I:=by
   have O:=sm;rw[FC]at O
   split at O
   .exact O
   .cases O
  obtain⟨hl1,GR,hl3⟩:=Z0 k _ cU E;refine aE bL (Di.ext B.aG) ⟨λjv w'=>jv=.bool (decide (I≠last+1/\(k=0\/I≠last)))/\w2=w',aR cU (cN (aC (λ_=>aI (aC (λ_=>⟨Vr cU,rfl⟩) λ_=>cN ⟨Hw cU,rfl⟩)) λ_=>⟨jvF cU,rfl⟩)),?_⟩;rintro _ _ ⟨rfl,hw⟩ _;subst hw;refine aC (λLI=>absurd LI (by have:=Z0 k I cU E;simp;omega)) (λLI=>?_);have hws:kY of (k+1)=I+1:=by unfold kY;rw[ew cU,Nat.add_sub_cancel,pd,E];rfl
  exact aR cU ⟨_,cU,k+1,I,rfl,rfl,rfl,cU,cU,cU,cU,B⟩
 refine oU dZ (G.ext B.aG) cU cU (λW anG=>?_);have anH:=anG _ G;refine cW yq B (C117 _ _ _ (anH.ext B.aG) (by first|omega|(rw[n0];omega))) (λx59 _ cA B=>cW yq B (C117 _ _ _ (M.ext B.aG) (by first|omega|(rw[n0];omega))) λx61 _ cA B=>cW yq B (C117 _ _ _ (M.ext B.aG) (by first|omega|(rw[n0];omega))) λx63 _ cA B=>qc (α:=jS) B λY _ B=>?_);obtain⟨U,rfl⟩:=B.p3.fK;obtain⟨anJ,rfl⟩:=B.p2.fK;obtain⟨aB4,rfl⟩:=B.p1.fK;refine pop (HT _ _ _ _ _ _ _ _ _ _) (kL B λavh _ B=>oU dZ (M.ext B.aG) cU cU λali V=>?_)
 have anL:=V _ M;exact cW yq B (C117 _ _ _ (anL.ext B.aG) (by first|omega|(rw[n0];omega))) (λ_ _ _ B=>aD (aA CO (aO B.p1 eD (ei rfl) B.fc.one λ_ B=>have B:=fE.shut (m:=Kw of stays dD) B.p4.p5.p4.p4.p5.p5;⟨avh,U,anJ,rfl,(St.join (St.join B.p2).p1).fresh⟩)))
def C128(p:Nat)(m:Mem)(ov fv:SV)(w:World)(c0:Cell w p 0 (jj ov))(c1:Cell w p 1 (jj fv))(hm:vS w p m)(J:xg m)(hb:MB m 1000000):CR 128 [(.pointer (some ⟨p,0,none⟩))] w (λv w'=>∃b,v=.pointer (some ⟨b,0,none⟩)/\mf (fE b (jj ov) (jj fv) m) w w'):=by
 have U:=hm;obtain⟨ov2,fv2,lv,kv,pm,_,_,c2,c3,c4,hO,YP,hL,hKp,hP⟩:=hm;obtain⟨es,clock,OE,gG,hkv,FW⟩:=hP.es;have h20:=J.fl;have V9:=J.WI;have Sw:=J.ll;have Sp:=J.kl;have Su:=J.lb;have B:=St.start w;refine pG Tryz.func128 (pl:=azw) ?_;refine⟨λc3 w'=>∃b I E G,c3=.pointer (some ⟨b,0,none⟩)/\St w bE [bU b [jj ov,jj fv,I,E,.map (some G)],bG I m.l,bG E m.kept,qB G λ_=>([]:List jS)] w',aD (aA wB (have B:=B.drew;bN eD (c0.ext B.aG) (aD (aA Ph (bN eD (c1.ext B.aG) ⟨cW agk B (C76 _ m _ (U.ext B.aG) J) (λx15 w1 Z B=>⟨aF eD (c0.ext B.aG),⟨aF eD (c1.ext B.aG),⟨?_,⟨?_,?_⟩⟩⟩⟩),⟨?_,?_⟩⟩))))),?_⟩
 .refine cW X9 B (C77 _ m _ (U.ext B.aG) J) (λx17 _ Z B=>?_);refine⟨aF eD (c0.ext B.aG),?_⟩;refine⟨aF eD (c1.ext B.aG),?_⟩;refine qc (α:=jS) B (λabk _ B=>?_);refine⟨aF eD (c0.ext B.aG),?_⟩;refine⟨aF eD (c1.ext B.aG),?_⟩;obtain⟨anM,rfl⟩:=B.p2.fK;obtain⟨acf,rfl⟩:=B.p1.fK;exact pop (qK _ _ _ _ _ _ _ _ _ _ _ _ _) (kL B λ_ _ B=>have B:=B.p1.p2.p3.p3;⟨_,_,_,_,rfl,B⟩)
 .refine qc (α:=jS) B (λayt _ B=>?_);refine⟨aF eD (c0.ext B.aG),?_⟩;refine⟨aF eD (c1.ext B.aG),?_⟩;refine cW X9 B (C77 _ m _ (U.ext B.aG) J) (λatL _ Z B=>?_);refine⟨aF eD (c0.ext B.aG),?_⟩;refine⟨aF eD (c1.ext B.aG),?_⟩;obtain⟨anM,rfl⟩:=B.p2.fK;obtain⟨QE,rfl⟩:=B.fK;exact pop (qK _ _ _ _ _ _ _ _ _ _ _ _ _) (kL B λ_ _ B=>have B:=B.p2.p2.p3.p3;⟨_,_,_,_,rfl,B⟩)
 .trivial
 .refine qc (α:=jS) B (λayu _ B=>?_);refine⟨aF eD (c0.ext B.aG),?_⟩;refine⟨aF eD (c1.ext B.aG),?_⟩;refine cW agk B (C76 _ m _ (U.ext B.aG) J) (λx15_1 _ Z B=>?_);refine⟨aF eD (c0.ext B.aG),?_⟩;refine⟨aF eD (c1.ext B.aG),?_⟩;refine cW X9 B (C77 _ m _ (U.ext B.aG) J) (λatM _ Z B=>?_);refine⟨aF eD (c0.ext B.aG),?_⟩;refine⟨aF eD (c1.ext B.aG),?_⟩;obtain⟨avl,rfl⟩:=B.p1.fK;obtain⟨QF,rfl⟩:=B.fK;exact pop (qK _ _ _ _ _ _ _ _ _ _ _ _ _) (kL B λ_ _ B=>have B:=B.p3.p2.p3.p3;⟨_,_,_,_,rfl,B⟩)
 .trivial
 rintro _ _ ⟨b,I,E,G,rfl,B⟩ _;refine aD (aA oz (bN uZ (c4.ext B.aG) (Li B Tryz.underlying205 (wQ OE B.aG) λr25 _ B=>?_)));have B:=B.p4.p4.p4.p4.p4;refine⟨λmm w1=>∃(seen:Array Nat) (done:List Int),mm=(leftOf es seen).size/\(∀e∈es.toList,seen.contains e.born=true->∃k∈done,e.key=iE k)/\St w bE [Is r25 pm clock seen,bU b [jj ov,jj fv,I,E,.map (some G)],bG I m.l,bG E m.kept,qB G λk=>if k∈done then m.iI k else []] w1,⟨_,#[],[],rfl,λ_ _ hc=>by simp at hc,by simpa using B⟩,?_⟩;rintro mm _ ⟨seen,done,rfl,W,B⟩ _;refine Qb B (wQ OE B.aG) gG.1 (λh0=>?_) (λe _ O B=>?_)
 .refine aN rfl (eX ?_);have B:=B.drop.p3.p3.p3.p3
  have hg:(λk=>if k∈done then m.iI k else [])=m.iI:=by
   funext k
   by_cases hd:k∈done
   .rw[ez hd]
   .rw[ew hd];refine(FW k λe O M=>hd ?_).symm;obtain⟨k2,FZ,V⟩:=W e O (all_seen es seen h0 e O);rw[M]at V;cases V;exact FZ
  rw[hg]at B;exact⟨b,rfl,(fE.shut B).fresh⟩
 obtain⟨k,sk,M,hev,hrk⟩:=hkv e (mem_left O).1;refine aN rfl (jb (Lj B (wQ OE B.aG) (mem_left O).1 gG.2.1 ?_));rw[M,hev];refine aN rfl (aN rfl (aD (aA oz (have B:=B.drew;aB uZ B.p1.hb rfl (cW arf B (C235 _ _ _ (hrk.ext B.aG) (hb k)) λx37 _ Z B=>?_)))));refine⟨aF uZ (B.p2.hb.cell rfl),?_⟩;obtain⟨s_w17,B⟩:=B.p5.Iq (k:=k);have B:=B.drop;obtain⟨TD,rfl⟩:=B.p1.fK;have B:=B.p1;refine FX B Tryz.underlying205 qJ (λ_ B=>have B:=B.p4.p4.p4.p4;⟨_,left_shrinks es seen e O,seen.push e.born,k::done,rfl,λe2 Y hc=>?_,?_⟩)
 .rcases tW hc with h|h
  .obtain⟨k2,h1,h2⟩:=W e2 Y h;exact⟨k2,so _ h1,h2⟩
  obtain rfl:=born_inj gG.2.1 Y (mem_left O).1 h;exact⟨k,qs,M⟩
 have hg:vJ (λk=>if k∈done then m.iI k else []) k (m.iI k)=(λk'=>if k'∈k::done then m.iI k' else []):=by
  funext k';unfold vJ
  by_cases e:k'=k
  .subst e;simp
  .simp[e]
 rw[hg]at B;exact B
def C80(p:Nat)(m:Mem)(w:World)(hm:vS w p m)(E:xg m)(hb:MB m 1000000)(hC:(eN (Ca m)).length<=1000000000):CR 80 [(.pointer (some ⟨p,0,none⟩))] w (λv w'=>mf (fe v (yH m)) w w'):=by
 have I9:=hm;obtain⟨ov,fv,lv,kv,pm,c0,c1,c2,c3,c4,hO,YP,hL,hKp,hP⟩:=hm;have h20:=E.fl;have V9:=E.WI;have Sw:=E.ll;have Sp:=E.kl;have Su:=E.lb;have B:=St.start w;refine fD Tryz.func80 ?_;refine Qe (n:=20) B (λI w1 B=>aY aaC B (C154 _ m _ (I9.ext B.aG) E) λ_ he B=>?_);have hnn:=LG E;refine tA (0:Int) B dZ qA cU cU er (λs_x13 _ B=>?_);have B:=(((B.xK (α:=List Int)).p1).p2).p2;refine⟨λmm mw sS is6 w1=>∃(done rest:List (List Int)),eN (Ca m)=done++rest/\is6=.bool (!rest.isEmpty)/\mm=rest.length/\St w bE [fe mw (Rb (ug m) done).1,Ti I 20 (Rb (ug m) done).2,aif sS rest] w1,⟨_,[],eN (Ca m),rfl,by rw[LH (Ca m)];rfl,rfl,by rw[LH (Ca m),Dw];exact B⟩,?_⟩
 rintro mm mw sS _ _ ⟨done,rest,G,rfl,rfl,B⟩ _;refine aX (λJ=>?_) (λJ=>?_)
 .obtain⟨c,rest,rfl⟩:∃c r,rest=c::r:=by cases rest with|nil=>cases J|cons c r=>exact⟨c,r,rfl⟩
  change St w bE [fe mw (Rb (ug m) done).1,Ti I 20 (Rb (ug m) done).2,bG sS c] _ at B
  have Gc:c∈eN (Ca m):=by rw[G];simp
  have W:=anD E Gc;have F9:=W.1;have hdl:=NF (ug m) done;have hdn:done.length<=(eN (Ca m)).length:=by rw[G];simp
  have O:(Bg m c c.length).length<=20:=by rw[xh];omega
  have V:(ug m c).length=20:=by unfold ug avg;rw[lJ,tr];omega
  refine⟨λo w'=>St w bE [fe o (Rb (ug m) (done++[c])).1,Ti I 20 (Rb (ug m) (done++[c])).2,bG sS c] w',?_,?_⟩
  .refine eC ajG (C156 _ m c _ _ (I9.ext B.aG) E hb B.p2.fc cU) ?_;rintro v24 _ hh;obtain⟨lx,o24,hi,rfl,Y⟩:=hh.resolve_left (λh=>by rw[W.2.1]at h;cases h.1);obtain rfl:lx=(Bg m c c.length):=o5.inj (hi.symm.trans W.2.1);have B:=B.made Y;refine aN rfl (aN rfl (aJ B agP λaB6 _ B=>Yr T1 (Qg B dZ B.p1.fc O (by simp;omega) λ_ B=>have B:=B.enc (cs':=(ug m c).map (n5 .i64)) (by exact amQ (n:=20) O);tz ajZ B.hb (by rw[oi];exact V) (ahg B.p3 Tryz.underlying254 T1 VK V ?_))))
   first|refine HC ?_|refine bJ ?_
   refine aC (λZ=>?_) (λZ=>?_)
   .refine tz ajZ B.hb (by rw[oi];exact V) (ahh B.p3 Tryz.underlying254 T1 V Z λ_ B=>cW yq B (C117 _ _ _ B.p4.fc cU) λx38 _ Y B=>?_);obtain⟨U,rfl⟩:=B.fK;have B:=B.freeze.cS (Ψ:=λw=>n4 w U c) (λ_ h=>DL.fP h);refine fH (s:=U) (x:=c) B yu er (λakF _ B=>have B:=B.p4;fI B yu (by simp;omega) er λs_x40 _ B=>?_);have B:=B.p2.drop.p2.drop.p2.p2.p2;rw[Rc,ew (by simpa using Z)];exact B
   have B:=B.drop.drop.p2.p2.p2;rw[Rc,ez (by simpa using Z)];exact B
  rintro vA _ B _;refine eC aq6 (C155 _ m c _ _ (I9.ext B.aG) E hb B.p2.fc cU W.2.2) ?_;rintro v_x18 _ anN
  rcases anN with⟨M,rfl,he⟩|⟨c2,o18,M,rfl,Y⟩
  .have B:=B.ext he;refine aN rfl (aN rfl ?_);rw[Rd G]at M;have B:=B.p2.drop.p1.p1;obtain rfl:rest=[]:=by simpa using M
   exact⟨_,et,done++[c],[],by rw[G];simp,rfl,rfl,(aif.nil B).p2.p2⟩
  have B:=B.made Y;refine aN rfl (aN rfl ?_);rw[Rd G]at M;have B:=B.p3.drop.p2.p2;obtain⟨r2,rfl⟩:∃r,rest=c2::r:=by cases rest with|nil=>cases M|cons y r=>exact⟨r,by simp at M;rw[M]⟩
  exact⟨_,et,done++[c],c2::r2,by rw[G];simp,rfl,rfl,B⟩
 have B:=B.p1.drop.p1.drop;obtain rfl:rest=[]:=by cases rest with|nil=>rfl|cons c r=>cases J
 rw[rM]at G;unfold yH;rw[G];exact B.fresh
structure fN where
 code:gz
 at_:Int
 aS:List Int
 counts:List Int
 fault:Int
 e:Int
 f:Int
 buf:List bH
def Jd(K:iD)(B:Value)(l:List aU):Prop:=∃ts:List bK,∀w,K w->dP (λ_=>True) w B ts/\jx ts l w
def fb(K:iD)(p:Nat)(room:Int)(t:fN):HP:=ph λE:Nat=>ph λB=>ph λrg=>ph λcn=>fact (Jd K B t.code.l)
 (sep (bU p [.pointer (some ⟨E,0,none⟩),iE t.code.aS,iE t.code.counts,B,iE t.at_,rg,cn,iE t.fault,iE t.e,iE t.f]) (sep (lV E room t.buf) (sep (bG rg t.aS) (bG cn t.counts))))
section
variable {w w0:World}{A:Nat->Prop}{R:List HP}{p:Nat}{K:iD}{room:Int}{t:fN}
theorem fb.open(B:St w0 A (fb K p room t::R) w):∃G E rg cn,Jd K E t.code.l/\St w0 A (bU p [.pointer (some ⟨G,0,none⟩),iE t.code.aS,iE t.code.counts,E,iE t.at_,rg,cn,iE t.fault,iE t.e,iE t.f]::lV G room t.buf::bG rg t.aS::bG cn t.counts::R) w:=by
 obtain⟨G,B⟩:=B.dU;obtain⟨E,B⟩:=B.dU;obtain⟨rg,B⟩:=B.dU;obtain⟨cn,B⟩:=B.dU;obtain⟨I,B⟩:=B.lq
 have h1:=B.split
 have h2:=h1.p1.split
 have h3:=h2.p1.split
 exact⟨G,E,rg,cn,I,h3.p2.p3⟩
theorem fb.shut{E:Nat}{B rg cn:Value}(G:Jd K B t.code.l)(I:St w0 A (bU p [.pointer (some ⟨E,0,none⟩),iE t.code.aS,iE t.code.counts,B,iE t.at_,rg,cn,iE t.fault,iE t.e,iE t.f]::lV E room t.buf::bG rg t.aS::bG cn t.counts::R) w):St w0 A (fb K p room t::R) w:=by
 have h1:=St.join I.p3.p3
 have h2:=St.join h1.p2
 exact St.dX E (St.dX B (St.dX rg (St.dX cn (St.nx G (St.join h2.p1)))))
theorem fb.rd(h:Has (fb K p room t) w):∃G E rg cn,Jd K E t.code.l/\oR w p [.pointer (some ⟨G,0,none⟩),iE t.code.aS,iE t.code.counts,E,iE t.at_,rg,cn,iE t.fault,iE t.e,iE t.f]/\xX w G room t.buf/\dP (λ_=>True) w rg t.aS/\dP (λ_=>True) w cn t.counts:=by
 obtain⟨F,B⟩:=h.st
 obtain⟨G,E,rg,cn,I,B⟩:=fb.open B
 exact⟨G,E,rg,cn,I,B.hb,Dt B.p1,B.p2.fc,B.p3.fc⟩
end
def gj(t:fN):Option aU:=if (t.code.l.length:Int)<=t.at_ then none else t.code.l[t.at_.toNat]?
def eo(l:List nW)(aS:List Int):Int×Bool:=if l.length=0 then(0,true)else((runM l aS).1,decide ((runM l aS).2=0))
def tE(t:fN)(x:aU):fN:={t with fault:=if (eo x.e t.aS).2=true then t.fault else 2,e:=(eo x.e t.aS).1}
def tF(t:fN)(x:aU):fN:={t with fault:=if (eo x.f t.aS).2=true then t.fault else 2,f:=(eo x.f t.aS).1}
def Ab(t:fN)(x:aU)(e:Int):fN×Bool:=
 if x.kind=1 then({t with aS:=t.aS.set x.a.toNat e,at_:=t.at_+1},true)
 else if x.kind=11 then({t with at_:=x.to},true)
 else if x.kind=12 then(if e=0 then({t with at_:=x.to},true)else({t with at_:=t.at_+1},true))
 else if x.kind=13 then({t with counts:=t.counts.set x.a.toNat x.b,at_:=t.at_+1},true)
 else if x.kind=14 then(if 0<sd (t.counts.getD x.a.toNat 0-1)then({t with counts:=t.counts.set x.a.toNat (sd (t.counts.getD x.a.toNat 0-1)),at_:=x.to},true)else({t with counts:=t.counts.set x.a.toNat (sd (t.counts.getD x.a.toNat 0-1)),at_:=t.at_+1},true))
 else if x.kind=15 then(if e=0 then({t with fault:=1},false)else({t with at_:=t.at_+1},true))
 else(t,false)
def fF(t:fN):fN×Bool:=match gj t with
 | none=>(t,false)
 | some x=>if (eo x.e t.aS).2=true then(if (eo x.f t.aS).2=true then Ab (tF (tE t x) x) x (eo x.e t.aS).1 else(tF (tE t x) x,false))else(tE t x,false)
def tm:Nat->fN->Option fN
 | 0,_=>none
 | n+1,t=>if (fF t).2=true then tm n (fF t).1 else some (fF t).1
structure Cb(c:gz):Prop where
 len:c.l.length<=1000000
 rb:0<=c.aS/\c.aS<=1000
 cb:0<=c.counts/\c.counts<=1000
 ops:∀x∈c.l,x.e.length<=1000/\x.f.length<=1000/\0<=x.to/\x.to<=1000000
 set:∀x∈c.l,x.kind=1->0<=x.a/\x.a<c.aS
 cnt:∀x∈c.l,x.kind=13\/x.kind=14->0<=x.a/\x.a<c.counts
structure G8(t:fN):Prop where
 code:Cb t.code
 rg:(t.aS.length:Int)=t.code.aS
 cn:(t.counts.length:Int)=t.code.counts
 Sr:0<=t.at_
 bl:t.buf.length<=1000
def tg{t:fN}{x:aU}(h:gj t=some x):x∈t.code.l/\t.at_<t.code.l.length:=by
 unfold gj at h
 split at h
 .cases h
 exact⟨ml h,cU⟩
theorem anO{t:fN}{x:aU}{e:Int}(h:G8 t)(B:x∈t.code.l):G8 (Ab t x e).1:=by
 have h1:=h.Sr;have h2:=(h.code.ops x B).2.2.1;have h3:=h.rg;have h4:=h.cn
 unfold Ab
 repeat' split
 all_goals first
  | exact⟨h.code,h3,h4,h2,h.bl⟩
  | exact⟨h.code,h3,h4,h1,h.bl⟩
  | exact⟨h.code,h3,h4,(by show 0<=t.at_+1;omega),h.bl⟩
  | exact⟨h.code,(by simpa using h3),h4,(by show 0<=t.at_+1;omega),h.bl⟩
  | exact⟨h.code,h3,(by simpa using h4),(by show 0<=t.at_+1;omega),h.bl⟩
  | exact⟨h.code,h3,(by simpa using h4),h2,h.bl⟩
theorem lW{t:fN}(h:G8 t):G8 (fF t).1:=by
 unfold fF
 cases hn:gj t with
 | none=>exact h
 | some x=>
  have E:=(tg hn).1
  have G:G8 (tE t x):=⟨h.code,h.rg,h.cn,h.Sr,h.bl⟩
  have B:G8 (tF (tE t x) x):=⟨h.code,h.rg,h.cn,h.Sr,h.bl⟩
  dsimp only
  split
  .split
   .exact anO B E
   .exact B
  .exact G
theorem adI{n:Nat}{t tR:fN}(h:tm n t=some tR):∃k,n=k+1:=by
 cases n with
 | zero=>cases h
 | succ k=>exact⟨k,rfl⟩
def vV{k:Nat}{t tR t':fN}(h:tm (k+1) t=some tR)(B:fF t=(t',true)):tm k t'=some tR:=by
 unfold tm at h;rw[B]at h;exact h
theorem AQ{k:Nat}{t tR t':fN}(h:tm (k+1) t=some tR)(B:fF t=(t',false)):tR=t':=by
 unfold tm at h;rw[B]at h;exact(o5.inj h).symm
section
variable {t:fN}{x:aU}{e:Int}
theorem Re(h:x.kind=1):Ab t x e=({t with aS:=t.aS.set x.a.toNat e,at_:=t.at_+1},true):=by unfold Ab;rw[ez h]
theorem Fc(h:x.kind=11):Ab t x e=({t with at_:=x.to},true):=by unfold Ab;simp[h]
theorem Dx(h:x.kind=12)(B:e=0):Ab t x e=({t with at_:=x.to},true):=by unfold Ab;simp[h,B]
theorem Dy(h:x.kind=12)(B:¬ e=0):Ab t x e=({t with at_:=t.at_+1},true):=by unfold Ab;simp[h,B]
theorem Je(h:x.kind=13):Ab t x e=({t with counts:=t.counts.set x.a.toNat x.b,at_:=t.at_+1},true):=by unfold Ab;simp[h]
theorem Dz(h:x.kind=14)(B:0<sd (t.counts.getD x.a.toNat 0-1)):Ab t x e=({t with counts:=t.counts.set x.a.toNat (sd (t.counts.getD x.a.toNat 0-1)),at_:=x.to},true):=by unfold Ab;simp only[h,ew (show ¬ (14:Int)=1 by decide),ew (show ¬ (14:Int)=11 by decide),ew (show ¬ (14:Int)=12 by decide),ew (show ¬ (14:Int)=13 by decide),ez B,if_true]
theorem DB(h:x.kind=14)(B:¬ 0<sd (t.counts.getD x.a.toNat 0-1)):Ab t x e=({t with counts:=t.counts.set x.a.toNat (sd (t.counts.getD x.a.toNat 0-1)),at_:=t.at_+1},true):=by unfold Ab;simp only[h,ew (show ¬ (14:Int)=1 by decide),ew (show ¬ (14:Int)=11 by decide),ew (show ¬ (14:Int)=12 by decide),ew (show ¬ (14:Int)=13 by decide),ew B,if_true]
theorem DC(h:x.kind=15)(B:e=0):Ab t x e=({t with fault:=1},false):=by unfold Ab;simp[h,B]
theorem DD(h:x.kind=15)(B:¬ e=0):Ab t x e=({t with at_:=t.at_+1},true):=by unfold Ab;simp[h,B]
theorem Jf(h1:¬ x.kind=1)(h2:¬ x.kind=11)(h3:¬ x.kind=12)(h4:¬ x.kind=13)(h5:¬ x.kind=14)(h6:¬ x.kind=15):Ab t x e=(t,false):=by unfold Ab;rw[ew h1,ew h2,ew h3,ew h4,ew h5,ew h6]
theorem xi(h:gj t=none):fF t=(t,false):=by unfold fF;rw[h]
theorem xj(h:gj t=some x)(h2:(eo x.e t.aS).2=false):fF t=(tE t x,false):=by unfold fF;rw[h];dsimp only;rw[h2];rfl
theorem xk(h:gj t=some x)(h2:(eo x.e t.aS).2=true)(h3:(eo x.f t.aS).2=false):fF t=(tF (tE t x) x,false):=by unfold fF;rw[h];dsimp only;rw[h2,h3];rfl
theorem iz(h:gj t=some x)(h2:(eo x.e t.aS).2=true)(h3:(eo x.f t.aS).2=true):fF t=Ab (tF (tE t x) x) x (eo x.e t.aS).1:=by unfold fF;rw[h];dsimp only;rw[h2,h3];rfl
end
def C72(K:iD)(p:Nat)(room:Int)(t:fN)(w:World)(hh:Has (fb K p room t) w)(O:K w)(kx:G8 t):CR 72 [(.pointer (some ⟨p,0,none⟩))] w (λv w'=>(gj t=none/\v=.tuple #[jj (⟨0,0,0,bO,bO,0⟩:bK),.bool false]/\Ext w w')\/∃x xv,gj t=some x/\(∀w,K w->n4 w xv x)/\v=.tuple #[jj (xv:bK),.bool true]/\Ext w w'):=by
 obtain⟨bp,gl,rg,cn,⟨Z,E⟩,J,hB,Gd,hcn⟩:=fb.rd hh;have c0:=J.cell (o:=0) rfl;have c3:=J.cell (o:=3) rfl;have c4:=J.cell (o:=4) rfl;have c7:=J.cell (o:=7) rfl;have hDL0:True:=trivial;have G:=(E w O).1;have I:=(E w O).2;have hn0:=I.1;have F9:=kx.code.len;have aB8:=kx.Sr;have B:=St.start w;refine pG Tryz.func72 (pl:=P72) ?_;refine aJ B oN (λqt _ B=>have B:=B.enc (cs':=jl (⟨0,0,0,bO,bO,0⟩:bK)) rfl;aD (aA lH (have B:=B.drew;bN bL (c4.ext B.aG) (aD (aA Pf (aA nU (bN pD (c3.ext B.aG) (aK pE (G.ext B.aG) (dC (aC (λ_=>pop (v:=jj (⟨0,0,0,bO,bO,0⟩:bK)) (by kernel_rfl) (aH (x:=(⟨0,0,0,bO,bO,0⟩:bK)) B ie rfl rfl λ_ B=>aE ie B.At (.inl ⟨by unfold gj;rw[ez cU],rfl,B.drop.aG⟩))) λky=>aD (aA Pf (aA nU (have B:=B.drew;bN pD (c3.ext B.aG) (aD (aA lH (bN bL (c4.ext B.aG) ?_))))))))))))))))
 obtain⟨Q7,W⟩:=gx Z (i:=t.at_.toNat) cU;obtain⟨M,U⟩:=gx t.code.l (i:=t.at_.toNat) cU;obtain⟨Y,V,rfl,ayv,ayw⟩:=I.2 _ _ _ W U;exact aW pE G cU W (λ_ zY=>aE ie (zY.ext B.aG) (aH (x:=(⟨M.kind,M.a,M.b,Y,V,M.to⟩:bK)) B ie rfl rfl λ_ B=>aE ie B.At (.inr ⟨_,_,by unfold gj;rw[ew cU];exact U,λw O=>(E w O).2.2 _ _ _ W U,rfl,B.drop.aG⟩)))
def C249(K:iD)(p:Nat)(room:Int)(t:fN)(F:Nat->Prop)(lv:Value)(xs:List nW)(w:World)(J:(fb K p room t).p w F)(G:∀w',gZ F w w'->dP (λ_=>True) w' lv xs)(V:xs.length<=1000):CR 249 [(.pointer (some ⟨p,0,none⟩)),lv] w (λv w'=>v=.tuple #[iE (eo xs t.aS).1,.bool (eo xs t.aS).2]/\ng F (fb K p room {t with fault:=if (eo xs t.aS).2=true then t.fault else 2}) w w'):=by
 have B:=St.begin J;refine agv _ _ _ _ ?_;unfold S249;refine aK rz (G _ B.aG) (aI (aC (λM=>?_) λM=>?_))
 .have E:eo xs t.aS=(0,true):=by unfold eo;rw[ez cU]
  rw[E];exact⟨rfl,B.mut⟩
 have E:eo xs t.aS=((runM xs t.aS).1,decide ((runM xs t.aS).2=0)):=by unfold eo;rw[ew cU]
 obtain⟨W,U,rg,cn,I,B⟩:=fb.open B;refine aD (aA zp (aB eD B.hb rfl (aY amj B (C79 _ _ xs _ _ (G _ B.aG) B.p2.fc cU) λ_ Y B=>aN rfl (aN rfl ⟨λw'=>St w F [fb K p room {t with fault:=if (eo xs t.aS).2=true then t.fault else 2}] w',cN (aC (λO=>?_) λO=>?_),?_⟩))))
 .refine aD (aA wx (aO B bL (ei rfl) (rfl) λ_ B=>?_));have B:=fb.shut (t:=(⟨t.code,t.at_,t.aS,t.counts,2,t.e,t.f,t.buf⟩:fN)) I B.p3.p3.p3.p3;have ht:(⟨t.code,t.at_,t.aS,t.counts,2,t.e,t.f,t.buf⟩:fN)={t with fault:=if (eo xs t.aS).2=true then t.fault else 2}:=by rw[E];dsimp only;rw[gk cU];rfl
  rw[ht]at B;exact B
 .have B:=fb.shut (t:=(⟨t.code,t.at_,t.aS,t.counts,t.fault,t.e,t.f,t.buf⟩:fN)) I B.p3.p3.p3.p3;have ht:(⟨t.code,t.at_,t.aS,t.counts,t.fault,t.e,t.f,t.buf⟩:fN)={t with fault:=if (eo xs t.aS).2=true then t.fault else 2}:=by rw[E];dsimp only;rw[fY cU];rfl
  rw[ht]at B;exact B
 intro _ B _;refine aI ?_;refine⟨?_,B.mut⟩;rw[E]
def C142(K:iD)(p:Nat)(room:Int)(t:fN)(tR:fN)(n:Nat)(F:Nat->Prop)(w:World)(hF:(fb K p room t).p w F)(hK:∀w',gZ F w w'->K w')(kx:G8 t)(hg:tm n t=some tR):CR 142 [(.pointer (some ⟨p,0,none⟩))] w (λv w'=>v=.tuple #[]/\ng F (fb K p room tR) w w'):=by
 have E:=St.begin hF;refine agn _ _ _ ?_;unfold S142;refine⟨λmm w'=>∃B:fN,tm mm B=some tR/\G8 B/\St w F [fb K p room B] w',⟨n,t,hg,kx,E⟩,?_⟩;rintro mm _ ⟨B,U,J,E⟩ _;obtain⟨k,rfl⟩:=adI U;refine eC agj (C72 K p room B _ E.has (hK _ E.aG) J) ?_;rintro v_x8 _ avn
 rcases avn with⟨M,rfl,he⟩|⟨x,xv,M,AR,rfl,he⟩
 .have E:=E.ext he;refine aN rfl (aN rfl (aJ E oN λqt w3 E=>have E:=E.enc (cs':=jl (⟨0,0,0,bO,bO,0⟩:bK)) rfl;aH (x:=(⟨0,0,0,bO,bO,0⟩:bK)) E ie rfl rfl λw4 E=>bJ (jb ?_)));have E:=E.drop;rw[AQ U (xi M)];exact⟨rfl,E.mut⟩
 have E:=E.ext he;have hxm:=tg M;obtain⟨hxe,hxf,hxt0,hxt1⟩:=J.code.ops x hxm.1;have avo:=J.code.set x hxm.1;have alk:=J.code.cnt x hxm.1;have hrl1:=J.rg;have hcl1:=J.cn;have aB9:=J.code.len;have hat1:=J.Sr;obtain⟨ge,gf,rfl,_,_⟩:=AR _ (hK _ E.aG)
 have hxE:∀w,K w->dP (λ_=>True) w (jj ge) x.e:=λw hw=>by
  obtain⟨ge',gf',hh,h1,_⟩:=AR w hw;cases hh;exact DL.flat h1
 have hxF:∀w,K w->dP (λ_=>True) w (jj gf) x.f:=λw hw=>by
  obtain⟨ge',gf',hh,_,h2⟩:=AR w hw;cases hh;exact DL.flat h2
 refine aN rfl (aN rfl (aJ E oN λqt w3 E=>have E:=E.enc (cs':=jl (⟨0,0,0,bO,bO,0⟩:bK)) rfl;aH (x:=(⟨x.kind,x.a,x.b,ge,gf,x.to⟩:bK)) E ie rfl rfl λw4 E=>bJ (eX (aA wz (aB (v:=jj (ge:SV)) sE E.hb rfl (aT ajJ E.p1 (H':=λ_=>fb K p room {B with fault:=if (eo x.e B.aS).2=true then B.fault else 2}) (Φ:=λv _=>v=.tuple #[iE (eo x.e B.aS).1,.bool (eo x.e B.aS).2]) (λF2 ed dQ=>?_) ?_))))))
 .exact C249 K p room B F2 _ x.e _ ed (λw' hc=>hxE w' (hK w' (dQ w' hc).aG)) hxe
 rintro _ _ rfl E;refine aN rfl (aN rfl ?_);obtain⟨bp,gl,rg,cn,O,E⟩:=fb.open E
 change St _ _ (bU p [.pointer (some ⟨bp,0,none⟩),iE B.code.aS,iE B.code.counts,gl,iE B.at_,rg,cn,iE (if (eo x.e B.aS).2=true then B.fault else 2),iE B.e,iE B.f]::lV bp room B.buf::bG rg B.aS::bG cn B.counts::_) _ at E
 refine aD (aA wy (aO E bL (ei rfl) (rfl) λ_ E=>bJ (aX (λV=>?_) λV=>?_)))
 .have E:=fb.shut (t:=(⟨B.code,B.at_,B.aS,B.counts,(if (eo x.e B.aS).2=true then B.fault else 2),(eo x.e B.aS).1,B.f,B.buf⟩:fN)) O E.p3.p3.p3.p3;have E:=E.p1.drop;rw[AQ U (xj M (by simpa using V))];exact⟨rfl,E.mut⟩
 have E:=fb.shut (t:=(⟨B.code,B.at_,B.aS,B.counts,(if (eo x.e B.aS).2=true then B.fault else 2),(eo x.e B.aS).1,B.f,B.buf⟩:fN)) O E.p3.p3.p3.p3
 change St w F (fb K p room (tE B x)::_) _ at E
 refine aA wA (aB (v:=jj (gf:SV)) sE E.p1.hb rfl (aT ajJ E (H':=λ_=>fb K p room { (tE B x)with fault:=if (eo x.f (tE B x).aS).2=true then(tE B x).fault else 2}) (Φ:=λv _=>v=.tuple #[iE (eo x.f B.aS).1,.bool (eo x.f B.aS).2]) (λF2 ed dQ=>?_) ?_))
 .exact C249 K p room (tE B x) F2 _ x.f _ ed (λw' hc=>hxF w' (hK w' (dQ w' hc).aG)) hxf
 rintro _ _ rfl E;refine aN rfl (aN rfl ?_);obtain⟨bp,gl,rg,cn,O,E⟩:=fb.open E
 change St _ _ (bU p [.pointer (some ⟨bp,0,none⟩),iE B.code.aS,iE B.code.counts,gl,iE B.at_,rg,cn,iE (if (eo x.f B.aS).2=true then(tE B x).fault else 2),iE (eo x.e B.aS).1,iE B.f]::lV bp room B.buf::bG rg B.aS::bG cn B.counts::_) _ at E
 refine aD (aA HM (aO E bL (ei rfl) (rfl) λ_ E=>bJ (aX (λY=>?_) λY=>?_)))
 .have E:=fb.shut (t:=(⟨B.code,B.at_,B.aS,B.counts,(if (eo x.f B.aS).2=true then(tE B x).fault else 2),(eo x.e B.aS).1,(eo x.f B.aS).1,B.buf⟩:fN)) O E.p3.p3.p3.p3;have E:=E.p1.drop;rw[AQ U (xk M (by simpa using V) (by simpa using Y))];exact⟨rfl,E.mut⟩
 refine aD (aA lH (aB bL E.hb rfl (aR cU ?_)));refine⟨_,?_,λ_ _ h=>h⟩;refine aA kQ (aB (v:=iE x.kind) bL E.p4.hb rfl (aI (aC (λpy=>?_) λpy=>aI (aC (λDE=>?_) λDE=>aI (aC (λBx=>aD (aA wy (aB bL E.hb rfl (aI (aC (λAc=>?_) λAc=>?_))))) λBx=>?_)))))
 .have hx1:=avo py;refine aD (aA zp (have E:=E.drew;aB eD E.hb rfl (aA lI (aB (v:=iE x.a) bL E.p4.hb rfl (aD (aA wy (aB bL E.hb rfl ?_)))))));obtain⟨avf,anA⟩:=gx B.aS (i:=x.a.toNat) cU;refine dN E.p2 dZ cU cU (λ_ Q9=>jm _ E.p2 bL Q9 cU λ_ E=>?_);intro yP;refine aD (aA lH (aO E.p1 bL (ei rfl) (rfl) λZ E=>?_));have E:=fb.shut (t:=(⟨B.code,(B.at_+1),(B.aS.set x.a.toNat (eo x.e B.aS).1),B.counts,(if (eo x.f B.aS).2=true then(tE B x).fault else 2),(eo x.e B.aS).1,(eo x.f B.aS).1,B.buf⟩:fN)) O E.p3.p2.p3.p3
  have E:=E.p1.drop
  have G:fF B=((⟨B.code,(B.at_+1),(B.aS.set x.a.toNat (eo x.e B.aS).1),B.counts,(if (eo x.f B.aS).2=true then(tE B x).fault else 2),(eo x.e B.aS).1,(eo x.f B.aS).1,B.buf⟩:fN),true):=by
   rw[iz M (by simpa using V) (by simpa using Y),Re py]
   try rw[show(tF (tE B x) x).counts.getD x.a.toNat 0=I from W]
   try rfl
  exact⟨k,cU,_,vV U G,by have:=lW J;rw[G]at this;exact this,E⟩
 .refine aA jH (aB (v:=iE x.to) bL E.p4.hb rfl ?_);intro yP;refine aD (aA lH (aO E bL (ei rfl) (rfl) λZ E=>?_));have E:=fb.shut (t:=(⟨B.code,x.to,B.aS,B.counts,(if (eo x.f B.aS).2=true then(tE B x).fault else 2),(eo x.e B.aS).1,(eo x.f B.aS).1,B.buf⟩:fN)) O E.p3.p3.p3.p3;have E:=E.p1.drop
  have G:fF B=((⟨B.code,x.to,B.aS,B.counts,(if (eo x.f B.aS).2=true then(tE B x).fault else 2),(eo x.e B.aS).1,(eo x.f B.aS).1,B.buf⟩:fN),true):=by
   rw[iz M (by simpa using V) (by simpa using Y),Fc DE]
   try rw[show(tF (tE B x) x).counts.getD x.a.toNat 0=I from W]
   try rfl
  exact⟨k,cU,_,vV U G,by have:=lW J;rw[G]at this;exact this,E⟩
 .refine aA jH (aB (v:=iE x.to) bL E.p4.hb rfl ?_);intro yP;refine aD (aA lH (aO E bL (ei rfl) (rfl) λZ E=>?_));have E:=fb.shut (t:=(⟨B.code,x.to,B.aS,B.counts,(if (eo x.f B.aS).2=true then(tE B x).fault else 2),(eo x.e B.aS).1,(eo x.f B.aS).1,B.buf⟩:fN)) O E.p3.p3.p3.p3;have E:=E.p1.drop
  have G:fF B=((⟨B.code,x.to,B.aS,B.counts,(if (eo x.f B.aS).2=true then(tE B x).fault else 2),(eo x.e B.aS).1,(eo x.f B.aS).1,B.buf⟩:fN),true):=by
   rw[iz M (by simpa using V) (by simpa using Y),Dx Bx Ac]
   try rw[show(tF (tE B x) x).counts.getD x.a.toNat 0=I from W]
   try rfl
  exact⟨k,cU,_,vV U G,by have:=lW J;rw[G]at this;exact this,E⟩
 .intro yP;refine aD (aA lH (aO E bL (ei rfl) (rfl) λZ E=>?_));have E:=fb.shut (t:=(⟨B.code,(B.at_+1),B.aS,B.counts,(if (eo x.f B.aS).2=true then(tE B x).fault else 2),(eo x.e B.aS).1,(eo x.f B.aS).1,B.buf⟩:fN)) O E.p3.p3.p3.p3;have E:=E.p1.drop
  have G:fF B=((⟨B.code,(B.at_+1),B.aS,B.counts,(if (eo x.f B.aS).2=true then(tE B x).fault else 2),(eo x.e B.aS).1,(eo x.f B.aS).1,B.buf⟩:fN),true):=by
   rw[iz M (by simpa using V) (by simpa using Y),Dy Bx Ac]
   try rw[show(tF (tE B x) x).counts.getD x.a.toNat 0=I from W]
   try rfl
  exact⟨k,cU,_,vV U G,by have:=lW J;rw[G]at this;exact this,E⟩
 refine aI (aC (λQ3=>?_) λQ3=>aI (aC (λJg=>?_) λJg=>aI (aC (λNG=>aD (aA wy (aB bL E.hb rfl (aI (aC (λCc=>?_) λCc=>?_))))) λNG=>?_)))
 .have hx1:=alk (.inl Q3);refine aD (aA HL (have E:=E.drew;aB eD E.hb rfl (aA lI (aB (v:=iE x.a) bL E.p4.hb rfl (aA fR (aB (v:=iE x.b) bL E.p4.hb rfl ?_))))));obtain⟨e_x80,aCa⟩:=gx B.counts (i:=x.a.toNat) cU;refine dN E.p3 dZ cU cU (λ_ avp=>jm _ E.p3 bL avp cU λ_ E=>?_);intro yP;refine aD (aA lH (aO E.p1 bL (ei rfl) (rfl) λZ E=>?_));have E:=fb.shut (t:=(⟨B.code,(B.at_+1),B.aS,(B.counts.set x.a.toNat x.b),(if (eo x.f B.aS).2=true then(tE B x).fault else 2),(eo x.e B.aS).1,(eo x.f B.aS).1,B.buf⟩:fN)) O E.p1.p3.p3.p3
  have E:=E.p1.drop
  have G:fF B=((⟨B.code,(B.at_+1),B.aS,(B.counts.set x.a.toNat x.b),(if (eo x.f B.aS).2=true then(tE B x).fault else 2),(eo x.e B.aS).1,(eo x.f B.aS).1,B.buf⟩:fN),true):=by
   rw[iz M (by simpa using V) (by simpa using Y),Je Q3]
   try rw[show(tF (tE B x) x).counts.getD x.a.toNat 0=I from W]
   try rfl
  exact⟨k,cU,_,vV U G,by have:=lW J;rw[G]at this;exact this,E⟩
 .have hx1:=alk (.inr Jg);refine aD (aA HL (have E:=E.drew;aB eD E.hb rfl (aA lI (aB (v:=iE x.a) bL E.p4.hb rfl ?_))));obtain⟨I,adJ⟩:=gx B.counts (i:=x.a.toNat) cU;refine dN E.p3 dZ cU cU (λ_ avq=>?_);have W:B.counts.getD x.a.toNat 0=I:=by rw[pd,adJ];rfl
  refine gW E.p3 bL avq adJ (H0 (dN E.p3 dZ cU cU λ_ avr=>jm _ E.p3 bL avr cU λ_ E=>aD (aA HL (have E:=E.drew;aB eD E.p1.hb rfl ?_))));have hsl:(B.counts.set x.a.toNat (sd (I-1))).length=B.counts.length:=List.length_set;refine aA lI (aB (v:=iE x.a) bL E.p4.hb rfl ?_);obtain⟨avs,T4⟩:=gx (B.counts.set x.a.toNat (sd (I-1))) (i:=x.a.toNat) cU;refine dN E dZ cU cU (λ_ avt=>?_);have h99:avs=sd (I-1):=by rw[List.getElem?_set_self cU]at T4;exact(o5.inj T4).symm
  refine gW E bL avt T4 (eh (aC (λadk=>?_) λadk=>?_))
  .refine aA jH (aB (v:=iE x.to) bL E.p4.hb rfl ?_);intro yP;refine aD (aA lH (aO E.p1 bL (ei rfl) (rfl) λZ E=>?_));have E:=fb.shut (t:=(⟨B.code,x.to,B.aS,(B.counts.set x.a.toNat (sd (I-1))),(if (eo x.f B.aS).2=true then(tE B x).fault else 2),(eo x.e B.aS).1,(eo x.f B.aS).1,B.buf⟩:fN)) O E.p1.p3.p3.p3;have E:=E.p1.drop
   have G:fF B=((⟨B.code,x.to,B.aS,(B.counts.set x.a.toNat (sd (I-1))),(if (eo x.f B.aS).2=true then(tE B x).fault else 2),(eo x.e B.aS).1,(eo x.f B.aS).1,B.buf⟩:fN),true):=by
    rw[iz M (by simpa using V) (by simpa using Y),Dz Jg (by rw[show(tF (tE B x) x).counts.getD x.a.toNat 0=I from W];omega)]
    try rw[show(tF (tE B x) x).counts.getD x.a.toNat 0=I from W]
    try rfl
   exact⟨k,cU,_,vV U G,by have:=lW J;rw[G]at this;exact this,E⟩
  intro yP;refine aD (aA lH (aO E.p1 bL (ei rfl) (rfl) λZ E=>?_));have E:=fb.shut (t:=(⟨B.code,(B.at_+1),B.aS,(B.counts.set x.a.toNat (sd (I-1))),(if (eo x.f B.aS).2=true then(tE B x).fault else 2),(eo x.e B.aS).1,(eo x.f B.aS).1,B.buf⟩:fN)) O E.p1.p3.p3.p3;have E:=E.p1.drop
  have G:fF B=((⟨B.code,(B.at_+1),B.aS,(B.counts.set x.a.toNat (sd (I-1))),(if (eo x.f B.aS).2=true then(tE B x).fault else 2),(eo x.e B.aS).1,(eo x.f B.aS).1,B.buf⟩:fN),true):=by
   rw[iz M (by simpa using V) (by simpa using Y),DB Jg (by rw[show(tF (tE B x) x).counts.getD x.a.toNat 0=I from W];omega)]
   try rw[show(tF (tE B x) x).counts.getD x.a.toNat 0=I from W]
   try rfl
  exact⟨k,cU,_,vV U G,by have:=lW J;rw[G]at this;exact this,E⟩
 .refine aD (aA wx (aO E bL (ei rfl) (rfl) λ_ E=>?_));have E:=fb.shut (t:=(⟨B.code,B.at_,B.aS,B.counts,1,(eo x.e B.aS).1,(eo x.f B.aS).1,B.buf⟩:fN)) O E.p3.p3.p3.p3;have E:=E.p1.drop
  have G:fF B=((⟨B.code,B.at_,B.aS,B.counts,1,(eo x.e B.aS).1,(eo x.f B.aS).1,B.buf⟩:fN),false):=by
   rw[iz M (by simpa using V) (by simpa using Y),DC NG Cc]
   try rw[show(tF (tE B x) x).counts.getD x.a.toNat 0=I from W]
   try rfl
  rw[AQ U G];exact⟨rfl,E.mut⟩
 .intro yP;refine aD (aA lH (aO E bL (ei rfl) (rfl) λZ E=>?_));have E:=fb.shut (t:=(⟨B.code,(B.at_+1),B.aS,B.counts,(if (eo x.f B.aS).2=true then(tE B x).fault else 2),(eo x.e B.aS).1,(eo x.f B.aS).1,B.buf⟩:fN)) O E.p3.p3.p3.p3;have E:=E.p1.drop
  have G:fF B=((⟨B.code,(B.at_+1),B.aS,B.counts,(if (eo x.f B.aS).2=true then(tE B x).fault else 2),(eo x.e B.aS).1,(eo x.f B.aS).1,B.buf⟩:fN),true):=by
   rw[iz M (by simpa using V) (by simpa using Y),DD NG Cc]
   try rw[show(tF (tE B x) x).counts.getD x.a.toNat 0=I from W]
   try rfl
  exact⟨k,cU,_,vV U G,by have:=lW J;rw[G]at this;exact this,E⟩
 have E:=fb.shut (t:=(⟨B.code,B.at_,B.aS,B.counts,(if (eo x.f B.aS).2=true then(tE B x).fault else 2),(eo x.e B.aS).1,(eo x.f B.aS).1,B.buf⟩:fN)) O E.p3.p3.p3.p3;have E:=E.p1.drop
 have G:fF B=((⟨B.code,B.at_,B.aS,B.counts,(if (eo x.f B.aS).2=true then(tE B x).fault else 2),(eo x.e B.aS).1,(eo x.f B.aS).1,B.buf⟩:fN),false):=by
  rw[iz M (by simpa using V) (by simpa using Y),Jf py DE Bx Q3 Jg NG]
  try rw[show(tF (tE B x) x).counts.getD x.a.toNat 0=I from W]
  try rfl
 rw[AQ U G];exact⟨rfl,E.mut⟩
structure jU where
 u:ki
 room:Int
 mem:Mem
 locks:List Int
 l:List fN
 bX:Int
 fault:Int
 fB:Int
structure MA where
 lnv:SV
 fsv:SV
 thv:SV
 rcl:SV
 clv:SV
 q:Nat
 ov:Value
 fv:Value
 lk:Value
 ll:Value
 ps:List Ptr
@[reducible] def nJ(a:MA)(m:jU):List Value:=[jj a.lnv,.int .i64 m.u.stays,jj a.fsv,.int .i64 m.u.locks,jj a.thv,.int .i64 m.u.recover.aS,.int .i64 m.u.recover.counts,jj a.rcl,jj a.clv,.int .i64 m.room,.pointer (some ⟨a.q,0,none⟩),a.lk,a.ll,.int .i64 m.bX,.int .i64 m.fault,.int .i64 m.fB]
structure UK(K:iD)(a:MA)(m:jU):Prop where
 ln:∀w,K w->dP (λ_=>True) w (jj a.lnv) m.u.lines
 cl:∀w,K w->DL w (jj a.clv) m.u.cB
 rc:Jd K (jj a.rcl) m.u.recover.l
 mem:∀w,K w->vR a.ov a.fv m.mem w
abbrev uP(K:iD)(room:Int)(s:Ptr)(t:fN):HP:=fb K s.b room t
def fZ(K:iD)(p:Nat)(m:jU):HP:=ph λa:MA=>fact (UK K a m) (sep (bU p (nJ a m)) (sep (fE a.q a.ov a.fv m.mem) (sep (bG a.lk m.locks) (sep (bG a.ll a.ps) (gH (uP K m.room) a.ps m.l)))))
def lX(K:iD)(p:Nat)(m:jU)(i:Nat)(tp:Ptr):HP:=ph λa:MA=>fact (UK K a m/\a.ps[i]?=some tp/\a.ps.length=m.l.length/\i<m.l.length) (sep (bU p (nJ a m)) (sep (fE a.q a.ov a.fv m.mem) (sep (bG a.lk m.locks) (sep (bG a.ll a.ps) (oF (uP K m.room) a.ps m.l i)))))
section
variable {w w' w0:World}{A:Nat->Prop}{R:List HP}{p:Nat}{K:iD}{m:jU}{a:MA}{i:Nat}{tp:Ptr}{t:fN}
theorem LJ{H1 H2 B E G:HP}(I:St w0 A (sep H1 (sep H2 (sep B (sep E G)))::R) w):St w0 A (H1::H2::B::E::G::R) w:=by
 have h1:=I.split
 have h2:=h1.p1.split
 have h3:=h2.p1.split
 have h4:=h3.p1.split
 exact h4.p2.p3.p4
theorem LK{H1 H2 B E G:HP}(I:St w0 A (H1::H2::B::E::G::R) w):St w0 A (sep H1 (sep H2 (sep B (sep E G)))::R) w:=by
 have h4:=St.join I.p4.p4
 have h3:=St.join h4.p3
 have h2:=St.join h3.p2
 exact St.join h2.p1
theorem fZ.open(B:St w0 A (fZ K p m::R) w):∃a,UK K a m/\St w0 A (bU p (nJ a m)::fE a.q a.ov a.fv m.mem::bG a.lk m.locks::bG a.ll a.ps::gH (uP K m.room) a.ps m.l::R) w:=by
 obtain⟨a,B⟩:=B.dU;obtain⟨E,B⟩:=B.lq;exact⟨a,E,LJ B⟩
theorem fZ.shut(E:UK K a m)(B:St w0 A (bU p (nJ a m)::fE a.q a.ov a.fv m.mem::bG a.lk m.locks::bG a.ll a.ps::gH (uP K m.room) a.ps m.l::R) w):St w0 A (fZ K p m::R) w:=
 St.dX a (St.nx E (LK B))
theorem lX.open(B:St w0 A (lX K p m i tp::R) w):∃a,(UK K a m/\a.ps[i]?=some tp/\a.ps.length=m.l.length/\i<m.l.length)/\St w0 A (bU p (nJ a m)::fE a.q a.ov a.fv m.mem::bG a.lk m.locks::bG a.ll a.ps::oF (uP K m.room) a.ps m.l i::R) w:=by
 obtain⟨a,B⟩:=B.dU;obtain⟨E,B⟩:=B.lq;exact⟨a,E,LJ B⟩
theorem lX.shut(E:UK K a m/\a.ps[i]?=some tp/\a.ps.length=m.l.length/\i<m.l.length)(B:St w0 A (bU p (nJ a m)::fE a.q a.ov a.fv m.mem::bG a.lk m.locks::bG a.ll a.ps::oF (uP K m.room) a.ps m.l i::R) w):St w0 A (lX K p m i tp::R) w:=
 St.dX a (St.nx E (LK B))
structure avu(K:iD)(w:World)(p:Nat)(m:jU)(a:MA):Prop where
 uk:UK K a m
 b:oR w p (nJ a m)
 mem:vS w a.q m.mem
 c0:Cell w a.q 0 a.ov
 c1:Cell w a.q 1 a.fv
 lk:dP (λ_=>True) w a.lk m.locks
 ll:dP (λ_=>True) w a.ll a.ps
 th:∀(i:Nat) (s:Ptr) (t:fN),a.ps[i]?=some s->m.l[i]?=some t->Has (fb K s.b m.room t) w
 len:a.ps.length=m.l.length
theorem fZ.rd(h:Has (fZ K p m) w)(G:K w):∃a,avu K w p m a:=by
 obtain⟨F,B⟩:=h.st
 obtain⟨a,E,B⟩:=fZ.open B
 have hc:Cell w a.q 0 a.ov/\Cell w a.q 1 a.fv:=by
  obtain⟨lv,kv,pm,h⟩:=fE.open B.p1;exact⟨h.hb.cell rfl,h.hb.cell rfl⟩
 exact⟨a,E,B.hb,xY B.p1 (E.mem _ G),hc.1,hc.2,B.p2.fc,B.p3.fc,λi s t h1 h2=>B.p4.ag0 h1 h2 (Φ:=λw=>Has (fb K s.b m.room t) w) λh=>⟨_,h⟩,B.p4.gh⟩
theorem adK{ps:List Ptr}(B:St w0 A (gH (uP K m.room) ps m.l::R) w)(E:ps[i]?=some tp)(ht:m.l[i]?=some t):St w0 A (fb K tp.b m.room t::oF (uP K m.room) ps m.l i::R) w:=B.focus E ht
theorem Rf(E:St w0 A (fb K tp.b m.room t::lX K p m i tp::R) w):St w0 A (fZ K p {m with l:=m.l.set i t}::R) w:=by
 obtain⟨a,⟨B,G,I,hi⟩,E⟩:=lX.open E.p1
 have h1:St w0 A (uP K m.room tp t::oF (uP K m.room) a.ps m.l i::_) w:=E.p4.p5
 have h2:=h1.q8 hi I G
 have h3:=h2.p4.p4.p4.p4
 exact fZ.shut (m:={m with l:=m.l.set i t}) ⟨B.ln,B.cl,B.rc,B.mem⟩ h3
end
def yT(m:jU)(t:fN):Bool:=match gj t with
 | none=>false
 | some x=>if t.fault≠0 then true else if x.kind=3\/x.kind=5\/x.kind=6\/x.kind=7 then !decide (m.room<=t.buf.length)else if x.kind=4\/x.kind=8\/x.kind=10 then decide (t.buf.length=0)else if x.kind=9 then decide (t.buf.length=0)&&decide (m.locks.getD x.b.toNat 0 = -1)else true
def vW(m:jU)(i:Nat)(t:fN):List cC:=(if yT m t=true then [⟨1,i,0,[]⟩]else [])++(qj t.buf).map λk=>⟨2,i,k,[]⟩
def lz(m:jU)(k:Nat):List cC:=(qi k).flatMap λi=>match m.l[i]? with|some t=>vW m i t|none=>[]
def gV(m:jU):List cC:=if m.fault≠0 then []else lz m m.l.length
def qk(m:jU):List cC:=if m.fault≠0 then []else(yH m.mem).map λc=>⟨3,0,0,c⟩
theorem DF{m:jU}{k:Nat}{t:fN}(h:m.l[k]?=some t):lz m (k+1)=lz m k++vW m k t:=by
 unfold lz;rw[B8,IM];simp[h]
structure xm(m:jU):Prop where
 mem:xg m.mem
 th:∀t∈m.l,G8 t
 tl:m.l.length<=1000
 lk:(m.locks.length:Int)=m.u.locks
 lkb:∀t∈m.l,∀x∈t.code.l,x.kind=9\/x.kind=10->0<=x.b/\x.b<m.u.locks
 lnb:∀t∈m.l,∀x∈t.code.l,x.kind=3->0<=x.b/\x.b<m.u.lines.length
 avv:∀t∈m.l,∀x∈t.code.l,x.kind=2\/x.kind=4->0<=x.a/\x.a<t.code.aS
 rm:1<=m.room/\m.room<=16
 st:∀t∈m.l,∀x,gj t=some x->t.fault=0->2<=x.kind/\x.kind<=10
 nl:∀n∈m.u.lines,-1<=n/\n<=1000
def LL(l:List bH):(qj l).length<=l.length:=by have:=Lz l l.length;rw[I8 l rfl]at this;exact this
def C73(K:iD)(p:Nat)(room:Int)(t:fN)(w:World)(G:Has (fb K p room t) w)(Y:t.buf.length<=1000):CR 73 [(.pointer (some ⟨p,0,none⟩))] w (λv w'=>v=.bool (decide (t.buf.length=0))/\Ext w w'):=by
 obtain⟨W,Z,rg,cn,⟨J,I⟩,E,M,Gd,O⟩:=fb.rd G;have U:=E.cell (o:=0) rfl;have V:=E.cell (o:=7) rfl;have B:=St.start w;refine fD Tryz.func73 ?_;exact aD (aA tK (bN sj (U.ext B.aG) (cW aaz B (C143 W _ _ _ (M.ext B.aG) cU) λ_ _ _ B=>aK lL B.fc (aI ⟨vb (gv.2 cU),B.drop.aG⟩))))
def C70(K:iD)(p:Nat)(m:jU)(q:Nat)(t:fN)(w:World)(hm:Has (fZ K p m) w)(hw:K w)(Cd:∀w',Ext w w'->K w')(iT:xm m)(W:Has (fb K q m.room t) w)(xn:t∈m.l):CR 70 [(.pointer (some ⟨p,0,none⟩)),(.pointer (some ⟨q,0,none⟩))] w (λv w'=>v=.bool (yT m t)/\Ext w w'):=by
 obtain⟨a,E⟩:=fZ.rd hm hw;have cm8:=E.b.cell (o:=8) rfl;have cm0:=E.b.cell (o:=0) rfl;have cm1:=E.b.cell (o:=1) rfl;have cm3:=E.b.cell (o:=3) rfl;have WQ:=E.b.cell (o:=9) rfl;have Ce:=E.b.cell (o:=10) rfl;have Bh:=E.b.cell (o:=11) rfl;have Jh:=E.b.cell (o:=12) rfl;have Ad:=E.b.cell (o:=13) rfl;have Cf:=E.b.cell (o:=14) rfl;have Rg:=E.b.cell (o:=15) rfl;have kx:=iT.th t xn;have xD:=kx.bl;obtain⟨bp,gl,rg,cn,⟨ts0,hts⟩,nI,hB,Gd,hcn⟩:=fb.rd W;have WO:=nI.cell (o:=0) rfl;have ct7:=nI.cell (o:=7) rfl;have hK:∀w',Ext w w'->K w':=Cd;have B:=St.start w;refine pG Tryz.func70 (pl:=P70) ?_
 refine eC agj (C72 K q m.room t _ (W.ext B.aG) (hK _ B.aG) kx) ?_;rintro v_x9 _ avw
 rcases avw with⟨G,rfl,J⟩|⟨x,xv,G,AR,rfl,J⟩
 .have B:=B.ext J;refine aN rfl (aN rfl (aJ B oN λZ w2 B=>have B:=B.enc (cs':=jl (⟨0,0,0,bO,bO,0⟩:bK)) rfl;aH (x:=(⟨0,0,0,bO,bO,0⟩:bK)) B ie rfl rfl λw3 B=>bJ (jb ?_)));refine⟨vb ?_,(by first|exact B.aG|exact B.drop.aG)⟩;unfold yT;rw[G]
 have B:=B.ext J;have hxm:=tg G;obtain⟨V,Y,rfl,_,_⟩:=AR _ (hK _ B.aG);refine aN rfl (aN rfl (aJ B oN λZ w2 B=>have B:=B.enc (cs':=jl (⟨0,0,0,bO,bO,0⟩:bK)) rfl;aH (x:=(⟨x.kind,x.a,x.b,V,Y,x.to⟩:bK)) B ie rfl rfl λw3 B=>bJ (eX (aD (aA wx (bN bL (ct7.ext B.aG) (cN (aC (λI=>?_) λI=>aA kQ (aB (v:=iE x.kind) bL B.hb rfl ⟨λU w'=>U=.bool (decide (x.kind=3\/x.kind=5\/x.kind=6\/x.kind=7))/\St w bE [bU Z (jl (⟨x.kind,x.a,x.b,V,Y,x.to⟩:bK))] w',aI (aC (λ_=>⟨vb dH,B⟩) λ_=>aI (aC (λ_=>⟨vb dH,B⟩) λ_=>aI (aC (λ_=>⟨vb dH,B⟩) λ_=>aI ⟨vb dH,B⟩))),?_⟩)))))))))
 .refine⟨vb ?_,(by first|exact B.aG|exact B.drop.aG)⟩;unfold yT;rw[G];dsimp only;rw[ez I]
 rintro _ _ ⟨rfl,B⟩ _;refine aX (λO=>?_) (λO=>⟨λU w'=>U=.bool (decide (x.kind=4\/x.kind=8\/x.kind=10))/\St w bE [bU Z (jl (⟨x.kind,x.a,x.b,V,Y,x.to⟩:bK))] w',aI (aC (λ_=>⟨vb dH,B⟩) λ_=>aI (aC (λ_=>⟨vb dH,B⟩) λ_=>aI ⟨vb dH,B⟩)),?_⟩)
 .refine aD (aA tK (bN sj (WO.ext B.aG) (aY aaA B (C145 bp _ _ _ (hB.ext B.aG)) λ_ J B=>bJ ?_)));refine⟨vb ?_,(by first|exact B.aG|exact B.drop.aG)⟩;unfold yT;rw[G];dsimp only;rw[ew (by simpa using I),ez (by simpa using O)]
 rintro _ _ ⟨rfl,B⟩ _;refine aX (λkF=>?_) (λkF=>aI (aC (λn8=>?_) λn8=>?_))
 .refine aY ami B (C73 K q m.room t _ (W.ext B.aG) xD) (λ_ J B=>?_);refine⟨vb ?_,(by first|exact B.aG|exact B.drop.aG)⟩;unfold yT;rw[G];dsimp only;rw[ew (by simpa using I),ew (by simpa using O),ez (by simpa using kF)]
 .have hlkb:=iT.lkb t xn x hxm.1 (.inl n8);have J9:=iT.lk;refine⟨λU w'=>U=.bool (decide (t.buf.length=0)&&decide (m.locks.getD x.b.toNat 0 = -1))/\St w bE [bU Z (jl (⟨x.kind,x.a,x.b,V,Y,x.to⟩:bK))] w',have B:=B.drew;aY ami B (C73 K q m.room t _ (W.ext B.aG) xD) (λ_ J B=>aX (λyA=>?_) λyA=>⟨vb (by rw[yA];rfl),B⟩),?_⟩
  .refine aD (aA tH (bN eD (Bh.ext B.aG) (aA fR (aB (v:=iE x.b) bL B.hb rfl ?_))));obtain⟨e_x51,M⟩:=gx m.locks (i:=x.b.toNat) cU;exact aW dZ E.lk cU M (λ_ avx=>aE bL (avx.ext B.aG) (aI ⟨vb (by rw[yA,pd,M];rfl),B⟩))
  rintro _ _ ⟨rfl,B⟩ _;refine⟨vb ?_,(by first|exact B.aG|exact B.drop.aG)⟩;unfold yT;rw[G];dsimp only;rw[ew (by simpa using I),ew (by simpa using O),ew (by simpa using kF),ez n8]
 refine⟨vb ?_,(by first|exact B.aG|exact B.drop.aG)⟩;unfold yT;rw[G];dsimp only;rw[ew (by simpa using I),ew (by simpa using O),ew (by simpa using kF),ew n8]
def T5(m:jU)(i:Nat)(t:fN):(vW m i t).length<=1+t.buf.length:=by
 have:=LL t.buf
 unfold vW;split<;>simp<;>omega
theorem Ae{m:jU}(h:xm m):∀k,(lz m k).length<=k*1001
 | 0=>by simp[lz]
 | k+1=>by
  have B:=Ae h k
  cases ht:m.l[k]? with
  | none=>
   have e:lz m (k+1)=lz m k:=by unfold lz;rw[B8,IM];simp[ht]
   rw[e];exact xL B (FH 1001 (Nat.le_succ k))
  | some t=>
   rw[DF ht,lJ]
   have:=T5 m k t
   have:=(h.th t (ml ht)).bl
   omega
def aim:List Int->Int->Int
 | [],n=>n
 | c::cs,n=>aim cs (sd (sd (n*10000)+c))
def sJ(l:List Int)(k:Nat):Int:=aim (l.take k) 0
theorem LM:∀(l:List Int) (c n:Int),aim (l++[c]) n=sd (sd (aim l n*10000)+c)
 | [],_,_=>rfl
 | x::l,c,n=>LM l c _
theorem Ji{l:List Int}{k:Nat}{c:Int}(h:l[k]?=some c):sJ l (k+1)=sd (sd (sJ l k*10000)+c):=by
 unfold sJ;rw[yC,h];exact LM _ _ _
def gY(p q:cC):Bool:=decide (q.kind=p.kind)&&decide (q.t=p.t)&&decide (q.i=p.i)&&decide (p.cut.length=0)
def pk3(s:SV):cY:=⟨3,0,0,s⟩
theorem WR{w:World}{B:List SV}{cs:List (List Int)}(h:jx B cs w):jx (B.map pk3) (cs.map λc=>(⟨3,0,0,c⟩:cC)) w:=by
 refine⟨by simp[h.1],λi t x a b=>?_⟩
 rw[qa]at a b
 cases hs:B[i]? with
 | none=>rw[hs]at a;cases a
 | some s=>
  cases hc:cs[i]? with
  | none=>rw[hc]at b;cases b
  | some c=>
   rw[hs]at a;rw[hc]at b
   simp at a b;subst a b
   exact⟨s,rfl,h.2 i s c hs hc⟩
def C24(K:iD)(p:Nat)(m:jU)(w:World)(hm:Has (fZ K p m) w)(hw:K w)(Cd:∀w',Ext w w'->K w')(M:xm m):CR 24 [(.pointer (some ⟨p,0,none⟩))] w (λv w'=>mf (fe v (gV m)) w w'):=by
 obtain⟨a,E⟩:=fZ.rd hm hw;have cm8:=E.b.cell (o:=8) rfl;have cm0:=E.b.cell (o:=0) rfl;have cm1:=E.b.cell (o:=1) rfl;have cm3:=E.b.cell (o:=3) rfl;have WQ:=E.b.cell (o:=9) rfl;have Ce:=E.b.cell (o:=10) rfl;have Bh:=E.b.cell (o:=11) rfl;have Jh:=E.b.cell (o:=12) rfl;have Ad:=E.b.cell (o:=13) rfl;have Cf:=E.b.cell (o:=14) rfl;have Rg:=E.b.cell (o:=15) rfl;have B:=St.start w;refine amc _ _ _ ?_;unfold S24;refine aD (aA pM (bN bL (Cf.ext B.aG) (cN (aC (λU=>?_) λU=>?_))))
 .have V:gV m=[]:=by unfold gV;rw[ez U]
  rw[V];exact B.xK.fresh
 refine aD (aA tI (bN CJ (Jh.ext B.aG) (aK FM (E.ll.ext B.aG) ?_)));have B:=B.xK (α:=cC);refine⟨λG o x J=>∃k:Nat,x=iE (k:Int)/\G=a.ps.length-k/\k<=a.ps.length/\St w bE [fe o (lz m k)] J,⟨_,0,rfl,rfl,ob _,B⟩,?_⟩;rintro G mw _ J ⟨k,rfl,rfl,hk,B⟩ _;refine aV (aC (λjh=>?_) λjh=>?_)
 .obtain⟨O,Y⟩:=gx a.ps (i:=(k:Int).toNat) cU;refine aW FM E.ll cU Y (λ_ Df=>?_);obtain⟨t,ht⟩:∃t,m.l[k]?=some t:=⟨_,l0 (by have:=E.len;omega)⟩;have xn:=ml ht;have xD:=(M.th t xn).bl;have mM:=Ae M k;have F9:=LL t.buf;have Sp:=E.len;have J4:=M.tl;refine aE KW (Df.ext B.aG) ⟨λo w'=>St w bE [fe o (lz m k++(if yT m t=true then [(⟨1,(k:Int),0,[]⟩:cC)]else []))] w',aY azl B (C70 K p m O.b t _ (hm.ext B.aG) (Cd _ B.aG) (λ_ e=>Cd _ (Ext.trans B.aG e)) M ((E.th k _ _ Y ht).ext B.aG) xn) (λw2 he B=>aX (λW=>?_) λW=>?_),?_⟩
  .refine pop (KY _ _) (have B:=B.fw (Φ:=(λw=>n4 w (⟨1,(k:Int),0,bO⟩:cY) (⟨1,(k:Int),0,[]⟩:cC))) (λ_=>⟨_,rfl,DL.nil _⟩);fH (s:=(⟨1,(k:Int),0,bO⟩:cY)) (x:=(⟨1,(k:Int),0,[]⟩:cC)) B nd er λas0 _ B=>have B:=B.p1;fI B nd (by simp;omega) er λs_x30 _ B=>?_);rw[W,ez rfl];exact B
  .rw[W,ew er,rM];exact B
  intro vA _ B _;obtain⟨bp,gl,rg,cn,_,nI,hB,Gd,hcn⟩:=fb.rd (E.th k _ _ Y ht);have WO:=nI.cell (o:=0) rfl;have ct5:=nI.cell (o:=5) rfl;have ct6:=nI.cell (o:=6) rfl;refine aD (aA tK (bN sj (WO.ext B.aG) (cW aqO B (C69 bp _ _ _ (hB.ext B.aG) cU) λZ _ cA B=>?_)));have hxx:=trivial;refine aK dZ B.fc ?_;have B:=B.p1.p1;refine⟨λG o x J=>∃j:Nat,x=iE (j:Int)/\G=(qj t.buf).length-j/\j<=(qj t.buf).length/\St w bE [bG Z (qj t.buf),fe o ((lz m k++(if yT m t=true then [(⟨1,(k:Int),0,[]⟩:cC)]else []))++((qj t.buf).take j).map λi=>(⟨2,(k:Int),i,[]⟩:cC))] J,⟨_,0,rfl,rfl,ob _,by simpa using B⟩,?_⟩
  rintro G Es _ _ ⟨j,rfl,rfl,hj,B⟩ _;refine aV (aC (λud=>?_) λud=>?_)
  .obtain⟨I,sm⟩:=gx (qj t.buf) (i:=(j:Int).toNat) cU;refine dN B dZ cU cU (λ_ Di=>gW B bL Di sm (pop (FR _ _ _) (have B:=B.fw (Φ:=(λw=>n4 w (⟨2,(k:Int),I,bO⟩:cY) (⟨2,(k:Int),I,[]⟩:cC))) (λ_=>⟨_,rfl,DL.nil _⟩);fH (s:=(⟨2,(k:Int),I,bO⟩:cY)) (x:=(⟨2,(k:Int),I,[]⟩:cC)) B nd er λacI _ B=>have B:=B.p2;fI B nd (by simp only[lJ,oi,n0,mv];split<;>simp<;>omega) er λauQ _ B=>aR cU ?_)))
   have B:=B.p1;refine⟨_,cU,j+1,rfl,rfl,cU,?_⟩;rw[o1,ig (k:=j) sm]at B;exact B
  refine aR cU ?_;have B:=B.drop;refine⟨_,cU,k+1,rfl,rfl,cU,?_⟩;rw[DF ht];unfold vW;rw[mH cU,o1]at B;exact B
 have V:gV m=lz m a.ps.length:=by unfold gV;rw[ew U,E.len]
 rw[V,show a.ps.length=k from cU];exact B.fresh
def C35(K:iD)(p:Nat)(m:jU)(w:World)(hm:Has (fZ K p m) w)(hw:K w)(Cd:∀w',Ext w w'->K w')(iT:xm m)(hb:MB m.mem 1000000)(hC:(eN (Ca m.mem)).length<=1000000000):CR 35 [(.pointer (some ⟨p,0,none⟩))] w (λv w'=>mf (fe v (qk m)) w w'):=by
 obtain⟨a,E⟩:=fZ.rd hm hw;have cm8:=E.b.cell (o:=8) rfl;have Z:=E.b.cell (o:=0) rfl;have cm1:=E.b.cell (o:=1) rfl;have cm3:=E.b.cell (o:=3) rfl;have WQ:=E.b.cell (o:=9) rfl;have Ce:=E.b.cell (o:=10) rfl;have Bh:=E.b.cell (o:=11) rfl;have Jh:=E.b.cell (o:=12) rfl;have Ad:=E.b.cell (o:=13) rfl;have Cf:=E.b.cell (o:=14) rfl;have Rg:=E.b.cell (o:=15) rfl;have B:=St.start w;refine fD Tryz.func35 ?_;refine aD (aA pM (bN bL (Cf.ext B.aG) (cN (aC (λM=>?_) λM=>?_))))
 .have I:qk m=[]:=by unfold qk;rw[ez M]
  rw[I];exact B.xK.fresh
 refine aD (aA mz (bN mT (Ce.ext B.aG) (eC aqQ (C80 a.q m.mem _ (E.mem.ext B.aG) iT.mem hb hC) ?_)));rintro O V cA;have B:=B.made cA;obtain⟨G,B⟩:=B.wI;have hsl:=B.MX;have hdl:=NF (ug m.mem) (eN (Ca m.mem));have Gc:(yH m.mem).length=(Rb (ug m.mem) (eN (Ca m.mem))).1.length:=rfl;refine aK yu B.fc ?_;have B:=(((B.eU (α:=cY)).p2).p2).p2;refine⟨λW o x V=>∃k:Nat,x=iE (k:Int)/\W=G.length-k/\k<=G.length/\St w bE [bG o ((G.take k).map pk3),bG O G,ep (jx G (yH m.mem))] V,⟨_,0,rfl,rfl,ob _,B⟩,?_⟩;rintro W mw _ _ ⟨k,rfl,rfl,hk,B⟩ _
 refine aV (aC (λkz=>?_) λkz=>?_)
 .obtain⟨U,Y⟩:=gx G (i:=(k:Int).toNat) cU;refine dN B.p1 yu cU cU (λ_ kW=>gW B.p1 eD kW Y (pop (v:=jj (pk3 U)) (KZ _ _ _ _) (bV ([pk3 U]) B nd rfl rfl (ei rfl) λJ _ B=>?_)));have BY:=B.fc;exact cK B.p1 nd BY (by simp;omega) er (λ_ _ B=>have B:=B.p1.drop;aR cU (have B:=B.p2.p2.p2;⟨_,cU,k+1,rfl,rfl,cU,by rw[<- ig (k:=k) Y];exact B⟩))
 have B:=B.p1.drop.p1;have I:qk m=(yH m.mem).map λc=>(⟨3,0,0,c⟩:cC):=by unfold qk;rw[ew M]
 rw[mH cU]at B;rw[I];exact(St.zE (B.cS λ_ h=>WR h).p1).fresh
def C87(cv:Value)(cut:List Int)(w:World)(E:dP (λ_=>True) w cv cut)(M:cut.length<=1000000):CR 87 [cv] w (λv w'=>v=iE (sJ cut cut.length)/\Ext w w'):=by
 have B:=St.start w;refine amk _ _ _ ?_;unfold S87;refine aK dZ (E.ext B.aG) ?_;refine⟨λI n x G=>∃k:Nat,n=iE (sJ cut k)/\x=iE (k:Int)/\I=cut.length-k/\k<=cut.length/\St w bE [] G,⟨_,0,rfl,rfl,rfl,ob _,B⟩,?_⟩;rintro I _ _ G ⟨k,rfl,rfl,rfl,W,B⟩ _;refine aV (aC (λV=>?_) λ_=>⟨by rw[show cut.length=k from cU],B.aG⟩);obtain⟨U,J⟩:=gx cut (i:=(k:Int).toNat) cU;exact aW dZ E cU J (λ_ O=>aE bL (O.ext B.aG) (H6 (zD (aR cU ⟨_,cU,k+1,by rw[Ji (k:=k) J],rfl,rfl,cU,B⟩))))
def C88(q x:cC)(U:cY)(b:Nat)(O:cY)(w:World)(hq:n4 w U q)(E:At (λ_=>True) w (.pointer (some ⟨b,0,none⟩)) O)(M:n4 w O x):CR 88 [jj U,(.pointer (some ⟨b,0,none⟩))] w (λv w'=>v=.bool (gY x q)/\Ext w w'):=by
 obtain⟨Y,rfl,WT⟩:=hq;obtain⟨NH,rfl,V⟩:=M;have B:=St.start w;refine fD Tryz.func88 ?_;refine cP B (λG _ B=>⟨λjv w'=>jv=.bool (gY x q)/\St w bE [bU G (jl (⟨q.kind,q.t,q.i,Y⟩:cY))] w',?_,?_⟩)
 .refine aA mS (aB (v:=iE q.kind) bL B.hb rfl (cL x.kind mS E rfl rfl λ_ J=>aE bL (J.ext B.aG) (aI (aC (λiO=>aA im (aB (v:=iE q.t) bL B.hb rfl (cL x.t im E rfl rfl λ_ W=>aE bL (W.ext B.aG) (aI (aC (λky=>aA qY (aB (v:=iE q.i) bL B.hb rfl (cL x.i qY E rfl rfl λ_ kW=>aE bL (kW.ext B.aG) (aI (aC (λjX=>?_) λ_=>⟨vb (by unfold gY;first|(simp_all;done)|grind),B⟩))))) λ_=>⟨vb (by unfold gY;first|(simp_all;done)|grind),B⟩))))) λ_=>⟨vb (by unfold gY;first|(simp_all;done)|grind),B⟩))))
  refine cL NH pK E rfl rfl (λ_ Z=>aE eD (Z.ext B.aG) ?_);have I:=DL.flat V;exact aK dZ (I.ext B.aG) (aI ⟨vb (by unfold gY;first|(simp_all;done)|grind),B⟩)
 rintro _ _ ⟨rfl,B⟩ _;exact⟨rfl,B.drop.aG⟩
def C157(Y fv:Value)(xs:List cC)(φ:cC->Prop)(g:cC->Bool)(w:World)(Z:DL w Y xs)(hf:lr hZ w fv φ g)(hφ:∀x∈xs,φ x)(hn:xs.length<=1073741824):CR 157 [Y,fv] w (λv w'=>v=iE (pY g xs)/\Ext w w'):=by
 obtain⟨g0,first,cap,rfl,mM,g9⟩:=hf;have B:=St.start w;refine fD Tryz.func157 ?_;obtain⟨M,G,E⟩:=Z.open;have O:=E.1;refine aK nd (G.ext B.aG) ?_;refine⟨λm x U=>∃k:Nat,x=iE (k:Int)/\m=xs.length-k/\k<=xs.length/\(∀y∈xs.take k,g y=false)/\St w bE [] U,⟨_,0,rfl,rfl,ob _,et,B⟩,?_⟩;rintro m _ U ⟨k,rfl,rfl,hk,I,B⟩ _;refine aV (aC (λlR=>?_) λ_=>⟨gD (n5 .i64) (gJ (by rw[mH cU]at I;exact I)).symm,B.aG⟩);obtain⟨jz,W⟩:=gx M (i:=(k:Int).toNat) cU;obtain⟨rL,J⟩:=gx xs (i:=(k:Int).toNat) cU
 obtain⟨YR,rfl,YS⟩:=E.2 _ _ _ W J;refine aW nd G cU W (λ_ gC=>aE oc (gC.ext B.aG) (fm mM (g9 _ rL U B.aG ⟨YR,rfl,(YS.ext B.aG)⟩ (hφ _ (ml J))) ?_));rintro _ _ ⟨rfl,he⟩;have B:=B.ext he;exact aX (λV=>⟨gD (n5 .i64) (jT I J V).symm,B.aG⟩) (λV=>aR cU ⟨_,cU,k+1,rfl,rfl,cU,fg I J V,B⟩)
def C84(E fv:Value)(xs:List cC)(φ:cC->Prop)(g:cC->Bool)(w:World)(G:DL w E xs)(J:lr hZ w fv φ g)(I:∀x∈xs,φ x)(M:xs.length<=1073741824):CR 84 [E,fv] w (λv w'=>v=.bool (xs.any g)/\Ext w w'):=by
 have B:=St.start w;refine fD Tryz.func84 ?_;exact aY aq7 B (C157 _ _ _ _ _ _ (G.ext B.aG) (J.ext B.aG) I cU) (λ_ _ B=>dC ⟨vb (iJ _ _),B.aG⟩)
def C28(K:iD)(p:Nat)(m:jU)(w:World)(I:Has (fZ K p m) w)(V:K w)(Y:∀w',Ext w w'->K w')(M:xm m):CR 28 [(.pointer (some ⟨p,0,none⟩))] w (λv w'=>mf (bG v m.mem.l) w w'):=by
 obtain⟨a,B⟩:=fZ.rd I V;have W:=B.b.cell (o:=8) rfl;have G:=B.b.cell (o:=0) rfl;have U:=B.b.cell (o:=1) rfl;have J:=B.b.cell (o:=3) rfl;have WQ:=B.b.cell (o:=9) rfl;have O:=B.b.cell (o:=10) rfl;have Bh:=B.b.cell (o:=11) rfl;have Jh:=B.b.cell (o:=12) rfl;have Z:=B.b.cell (o:=13) rfl;have Cf:=B.b.cell (o:=14) rfl;have Rg:=B.b.cell (o:=15) rfl;have E:=St.start w;refine fD Tryz.func28 ?_;exact aD (aA mz (bN mT (O.ext E.aG) (cW agk E (C76 a.q m.mem _ (B.mem.ext E.aG) M.mem) λ_ _ _ E=>E.fresh)))
def C30(K:iD)(p:Nat)(m:jU)(w:World)(I:Has (fZ K p m) w)(V:K w)(Y:∀w',Ext w w'->K w')(M:xm m):CR 30 [(.pointer (some ⟨p,0,none⟩))] w (λv w'=>mf (bG v m.mem.kept) w w'):=by
 obtain⟨a,B⟩:=fZ.rd I V;have W:=B.b.cell (o:=8) rfl;have G:=B.b.cell (o:=0) rfl;have U:=B.b.cell (o:=1) rfl;have J:=B.b.cell (o:=3) rfl;have WQ:=B.b.cell (o:=9) rfl;have O:=B.b.cell (o:=10) rfl;have Bh:=B.b.cell (o:=11) rfl;have Jh:=B.b.cell (o:=12) rfl;have Z:=B.b.cell (o:=13) rfl;have Cf:=B.b.cell (o:=14) rfl;have Rg:=B.b.cell (o:=15) rfl;have E:=St.start w;refine fD Tryz.func30 ?_;exact aD (aA mz (bN mT (O.ext E.aG) (cW X9 E (C77 a.q m.mem _ (B.mem.ext E.aG) M.mem) λ_ _ _ E=>E.fresh)))
def jC(m:Mem)(c:Int):Int:=if TZ m c=true then m.l.getD c.toNat 0 else 0
def Ge(m:jU)(t:fN)(x:aU):Int:=if (m4 t.buf x.b).isSome=true then(m4 t.buf x.b).getD 0 else jC m.mem x.b
def loadT(m:jU)(t:fN)(x:aU):fN:={t with aS:=t.aS.set x.a.toNat (Ge m t x)}
def Jk(m:jU)(t:fN)(x:aU):bZ:=⟨if (m4 t.buf x.b).isSome=true then 2 else 1,0,x.b,Ge m t x,0⟩
def ql(m:jU)(t:fN)(x:aU):bH:=if x.kind=3 then⟨3,m.u.lines.getD x.b.toNat 0,x.b,t.e⟩else⟨x.kind,x.b,0,0⟩
def xo(m:jU)(t:fN)(x:aU):fN:={t with buf:=qw m.room t.buf (ql m t x)}
def Af(k:Int):Int:=if k=3 then 3 else if k=5 then 4 else if k=6 then 5 else if k=7 then 6 else 0
def uh(m:jU)(t:fN)(x:aU):bZ:=⟨Af x.kind,0,x.b,(ql m t x).n,0⟩
def casT(m:jU)(t:fN)(x:aU):fN:={t with aS:=t.aS.set x.a.toNat (jC m.mem x.b)}
def yb(m:jU)(t:fN)(x:aU):jU:=if jC m.mem x.b=t.e then {m with mem:=gN m.mem x.b t.f}else m
def NJ(m:jU)(t:fN)(x:aU):bZ:=if jC m.mem x.b=t.e then⟨8,0,x.b,jC m.mem x.b,t.f⟩else⟨9,0,x.b,jC m.mem x.b,0⟩
def BA(m:jU)(i:Int)(x:aU):jU:={m with locks:=m.locks.set x.b.toNat i}
def sK(m:jU)(i:Int)(x:aU):jU:=if m.locks.getD x.b.toNat 0=i then {m with locks:=m.locks.set x.b.toNat (-1)}else {m with fault:=3,fB:=i}
def BB(m:jU)(i:Int)(x:aU):bZ:=if m.locks.getD x.b.toNat 0=i then⟨11,0,x.b,0,0⟩else⟨16,0,3,0,0⟩
def dS(m:jU)(t:fN)(i:Int)(x:aU):jU×fN×bZ:=
 if x.kind=2 then(m,loadT m t x,Jk m t x)
 else if x.kind=4 then(yb m t x,casT m t x,NJ m t x)
 else if x.kind=8 then(m,t,⟨7,0,0,0,0⟩)
 else if x.kind=9 then(BA m i x,t,⟨10,0,x.b,0,0⟩)
 else if x.kind=10 then(sK m i x,t,BB m i x)
 else(m,xo m t x,uh m t x)
def WU(p:Nat)(m:Mem)(c:Int)(w:World)(E:vS w p m)(B:xg m):CR 260 [.pointer (some ⟨p,0,none⟩),iE c] w (λv w'=>v=.tuple #[iE (jC m c),iE (if TZ m c=true then 0 else 1)]/\Ext w w'):=C260 p m c w E B
def Fe(m:Mem)(c n:Int):(gN m c n).of=m.of:=by unfold gN;grind
def vX(m:Mem)(c n:Int):(gN m c n).dD=m.dD:=by unfold gN;grind
def ain(m:Mem)(c:Int):(sW m c).of=m.of:=by unfold sW;grind
def Ri(m:Mem)(c:Int):(sW m c).dD=m.dD:=by unfold sW;grind
def vR.write{ov fv:Value}{m:Mem}{w:World}{c n:Int}(h:vR ov fv m w):vR ov fv (gN m c n) w:=by grind[vR,gN]
theorem vR.out{ov fv:Value}{m:Mem}{w:World}{c:Int}(h:vR ov fv m w):vR ov fv (sW m c) w:=by grind[vR,sW]
def C167(K:iD)(p:Nat)(m:jU)(n:Nat)(tp:Ptr)(t:fN)(i:Int)(x:aU)(V Y:SV)(F:Nat->Prop)(w:World)(hF:(sep (fb K tp.b m.room t) (lX K p m n tp)).p w F)(hK:∀w',gZ F w w'->K w')(xD:t.buf.length<=1000)(Z:xg m.mem)(qy:MB m.mem 1000000)(hxa:0<=x.a/\x.a<t.aS.length):CR 167 [(.pointer (some ⟨p,0,none⟩)),(.pointer (some ⟨tp.b,0,none⟩)),iE i,jj (⟨x.kind,x.a,x.b,V,Y,x.to⟩:bK)] w (λv w'=>v=jj (Jk m t x)/\ng F (sep (fb K tp.b m.room (loadT m t x)) (lX K p m n tp)) w w'):=by
 have B:=(St.begin hF).split;obtain⟨bp,gl,rg,cn,W,B⟩:=fb.open B;obtain⟨a,E,B⟩:=lX.open B.p4;refine agr _ _ _ _ _ _ ?_;unfold S167;refine cP (x:=(⟨x.kind,x.a,x.b,V,Y,x.to⟩:bK)) B (λBc _ B=>aJ B jQ λEP _ B=>aD (aA tK (have B:=B.drew;aB sj B.p7.hb rfl (aA fR (aB (v:=iE x.b) bL B.p1.hb rfl (aY ajL B (C259 bp x.b m.room t.buf _ (Dt B.p8) cU) λ_ he B=>aN rfl (aN rfl ?_)))))));refine⟨_,?_,λ_ _ _ h=>h⟩;refine bJ (aX (λI=>?_) λI=>?_)
 .refine aD (aA mz (have B:=B.drew;aB mT B.p2.hb rfl (aA fR (aB (v:=iE x.b) bL B.p1.hb rfl (aY VC B (WU a.q m.mem x.b _ (xY B.p3 (E.1.mem _ (hK _ B.aG))) Z) λ_ he B=>aN rfl (aN rfl ?_))))));intro sQ;refine aD (aA zp (have B:=B.drew;aB eD B.p7.hb rfl (aA lI (aB (v:=iE x.a) bL B.p1.hb rfl ?_))));obtain⟨U,NA⟩:=gx t.aS (i:=x.a.toNat) cU;refine dN B.p9 dZ cU cU (λJ O=>jm _ B.p9 bL O cU λw6 B=>aA fR (aB (v:=iE x.b) bL B.p2.hb rfl (pop (l8 _ _ _) (aH (x:=(⟨1,0,x.b,(jC m.mem x.b),0⟩:bZ)) B.p1 ey rfl rfl λw7 B=>aE ey B.At ?_))))
  have G:Ge m t x=(jC m.mem x.b):=by unfold Ge;rw[ew (by simpa using I)]
  have M:(if (m4 t.buf x.b).isSome=true then(2:Int)else 1)=1:=by rw[ew (by simpa using I)]
  have B:=fb.shut (room:=m.room) (t:=(⟨t.code,t.at_,(t.aS.set x.a.toNat (jC m.mem x.b)),t.counts,t.fault,t.e,t.f,t.buf⟩:fN)) W B.za.p2.za.za;have B:=((lX.shut (m:=m) (⟨⟨E.1.ln,E.1.cl,E.1.rc,E.1.mem⟩,E.2⟩) B.p7.p7.p7.p7.p7).p2).drop;have B:=B.p2.drop.p1;refine⟨?_,?_⟩
  .unfold Jk;rw[G,M]
  rw[show loadT m t x=(⟨t.code,t.at_,(t.aS.set x.a.toNat (jC m.mem x.b)),t.counts,t.fault,t.e,t.f,t.buf⟩:fN)from by unfold loadT;rw[G]];exact(St.join B).mut
 intro sQ;refine aD (aA zp (have B:=B.drew;aB eD B.p7.hb rfl (aA lI (aB (v:=iE x.a) bL B.p1.hb rfl ?_))));obtain⟨U,NA⟩:=gx t.aS (i:=x.a.toNat) cU;refine dN B.p9 dZ cU cU (λJ O=>jm _ B.p9 bL O cU λw6 B=>aA fR (aB (v:=iE x.b) bL B.p2.hb rfl (pop (l8 _ _ _) (aH (x:=(⟨2,0,x.b,((m4 t.buf x.b).getD 0),0⟩:bZ)) B.p1 ey rfl rfl λw7 B=>aE ey B.At ?_))));have G:Ge m t x=((m4 t.buf x.b).getD 0):=by unfold Ge;rw[ez (by simpa using I)]
 have M:(if (m4 t.buf x.b).isSome=true then(2:Int)else 1)=2:=by rw[ez (by simpa using I)]
 have B:=fb.shut (room:=m.room) (t:=(⟨t.code,t.at_,(t.aS.set x.a.toNat ((m4 t.buf x.b).getD 0)),t.counts,t.fault,t.e,t.f,t.buf⟩:fN)) W B.za.p2.za.za;have B:=((lX.shut (m:=m) (⟨⟨E.1.ln,E.1.cl,E.1.rc,E.1.mem⟩,E.2⟩) B.p7.p7.p7.p7.p7).p2).drop;have B:=B.p2.drop.p1;refine⟨?_,?_⟩
 .unfold Jk;rw[G,M]
 rw[show loadT m t x=(⟨t.code,t.at_,(t.aS.set x.a.toNat ((m4 t.buf x.b).getD 0)),t.counts,t.fault,t.e,t.f,t.buf⟩:fN)from by unfold loadT;rw[G]];exact(St.join B).mut
def C169(K:iD)(p:Nat)(m:jU)(n:Nat)(tp:Ptr)(t:fN)(i:Int)(x:aU)(O W:SV)(F:Nat->Prop)(w:World)(hF:(sep (fb K tp.b m.room t) (lX K p m n tp)).p w F)(Y:∀w',gZ F w w'->K w')(xD:t.buf.length<=1000)(U:xg m.mem)(qy:MB m.mem 1000000)(hxa:0<=x.a/\x.a<t.aS.length):CR 169 [(.pointer (some ⟨p,0,none⟩)),(.pointer (some ⟨tp.b,0,none⟩)),iE i,jj (⟨x.kind,x.a,x.b,O,W,x.to⟩:bK)] w (λv w'=>v=jj (NJ m t x)/\ng F (sep (fb K tp.b m.room (casT m t x)) (lX K p (yb m t x) n tp)) w w'):=by
 have B:=(St.begin hF).split;obtain⟨bp,gl,rg,cn,V,B⟩:=fb.open B;obtain⟨a,E,B⟩:=lX.open B.p4;refine pG Tryz.func169 (pl:=azP) ?_;refine cP (x:=(⟨x.kind,x.a,x.b,O,W,x.to⟩:bK)) B (λBc _ B=>aJ B jQ λEP _ B=>aD (aA mz (have B:=B.drew;aB mT B.p2.hb rfl (aA fR (aB (v:=iE x.b) bL B.p1.hb rfl (aY VC B (WU a.q m.mem x.b _ (xY B.p3 (E.1.mem _ (Y _ B.aG))) U) λ_ he B=>aN rfl (aN rfl (aD (aA zp (have B:=B.drew;aB eD B.p7.hb rfl ?_))))))))));refine aA lI (aB (v:=iE x.a) bL B.p1.hb rfl ?_)
 obtain⟨Gf,T7⟩:=gx t.aS (i:=x.a.toNat) cU;refine dN B.p9 dZ cU cU (λ_ Jm=>jm _ B.p9 bL Jm cU λ_ B=>aD (aA wy (aB bL B.p8.hb rfl (cN (aC (λG=>?_) λG=>?_)))))
 .refine aA fR (aB (v:=iE x.b) bL B.p2.hb rfl (pop (l8 _ _ _) (aH (x:=(⟨9,0,x.b,(jC m.mem x.b),0⟩:bZ)) B.p1 ey rfl rfl λ_ B=>aE ey B.At ?_)));have M:yb m t x=m:=by unfold yb;rw[ew G]
  have J:NJ m t x=⟨9,0,x.b,jC m.mem x.b,0⟩:=by unfold NJ;rw[ew G]
  have B:=fb.shut (room:=m.room) (t:=(⟨t.code,t.at_,(t.aS.set x.a.toNat (jC m.mem x.b)),t.counts,t.fault,t.e,t.f,t.buf⟩:fN)) V B.za.p2.za.za;have B:=lX.shut (m:=m) (⟨⟨E.1.ln,E.1.cl,E.1.rc,λw I=>by first|exact E.1.mem w I|exact(E.1.mem w I).write⟩,E.2⟩) B.p7.p7.p7.p7.p7;have B:=B.p2.drop.p2.drop.p1;refine⟨?_,?_⟩
  .rw[J];try rfl
  rw[M];exact(St.join B).mut
 refine aD (aA mz (have B:=B.drew;aB mT B.p3.hb rfl (aA fR (aB (v:=iE x.b) bL B.p2.hb rfl (aD (aA HM (aB bL B.p8.hb rfl (aT O4 B.p4 (H':=λ_=>fE a.q a.ov a.fv (gN m.mem x.b t.f)) (Φ:=λ_ _=>True) (λF2 Z dQ=>?_) ?_))))))))
 .exact(C159 a.q a.ov a.fv m.mem F2 x.b _ _ Z (λw' hc=>E.1.mem _ (Y w' (dQ w' hc).aG)) U qy).mono λ_ _ r=>r.mono λ_ _ h=>⟨trivial,h.2⟩
 rintro _ _ _ B;refine aA fR (have B:=B.drew;aB (v:=iE x.b) bL B.p3.hb rfl (aD (aA HM (aB bL B.p8.hb rfl (pop (Bo _ _ _ _) (aH (x:=(⟨8,0,x.b,(jC m.mem x.b),t.f⟩:bZ)) B.p2 ey rfl rfl λ_ B=>aE ey B.At ?_))))));have M:yb m t x={m with mem:=gN m.mem x.b t.f}:=by unfold yb;rw[ez (by simpa using G)]
 have J:NJ m t x=⟨8,0,x.b,jC m.mem x.b,t.f⟩:=by unfold NJ;rw[ez (by simpa using G)]
 have B:=fb.shut (room:=m.room) (t:=(⟨t.code,t.at_,(t.aS.set x.a.toNat (jC m.mem x.b)),t.counts,t.fault,t.e,t.f,t.buf⟩:fN)) V B.za.p3.za.za;have B:=lX.shut (m:={m with mem:=gN m.mem x.b t.f}) (⟨⟨E.1.ln,E.1.cl,E.1.rc,λw I=>by first|exact E.1.mem w I|exact(E.1.mem w I).write⟩,E.2⟩) B.p7.p7.p7.p5.p7;have B:=B.p2.drop.p2.drop.p1;refine⟨?_,?_⟩
 .rw[J];try rfl
 rw[M];exact(St.join B).mut
def C170(K:iD)(p:Nat)(m:jU)(n:Nat)(tp:Ptr)(t:fN)(i:Int)(x:aU)(G I:SV)(F:Nat->Prop)(w:World)(J:(sep (fb K tp.b m.room t) (lX K p m n tp)).p w F)(hK:∀w',gZ F w w'->K w')(O:t.buf.length<=1000)(U:xg m.mem)(Z:MB m.mem 1000000):CR 170 [(.pointer (some ⟨p,0,none⟩)),(.pointer (some ⟨tp.b,0,none⟩)),iE i,jj (⟨x.kind,x.a,x.b,G,I,x.to⟩:bK)] w (λv w'=>v=jj (⟨7,0,0,0,0⟩:bZ)/\ng F (sep (fb K tp.b m.room t) (lX K p m n tp)) w w'):=by
 have B:=(St.begin J).split;obtain⟨bp,V,rg,cn,M,B⟩:=fb.open B;obtain⟨a,E,B⟩:=lX.open B.p4;refine fD Tryz.func170 ?_;refine cP (x:=(⟨x.kind,x.a,x.b,G,I,x.to⟩:bK)) B (λW _ B=>aJ B jQ λY _ B=>pop (MR _) (aH (x:=(⟨7,0,0,0,0⟩:bZ)) B ey rfl rfl λ_ B=>aE ey B.At (have B:=fb.shut (room:=m.room) (t:=(⟨t.code,t.at_,t.aS,t.counts,t.fault,t.e,t.f,t.buf⟩:fN)) M B.za.za.za.za;have B:=((lX.shut (m:=m) (⟨⟨E.1.ln,E.1.cl,E.1.rc,E.1.mem⟩,E.2⟩) B.p7.p7.p7.p7.p7).p2).drop;have B:=B.p2.drop.p1;⟨?_,?_⟩)))
 .rfl
 skip;exact(St.join B).mut
def C171(K:iD)(p:Nat)(m:jU)(n:Nat)(tp:Ptr)(t:fN)(i:Int)(x:aU)(G I:SV)(F:Nat->Prop)(w:World)(M:(sep (fb K tp.b m.room t) (lX K p m n tp)).p w F)(hK:∀w',gZ F w w'->K w')(W:t.buf.length<=1000)(Y:xg m.mem)(qy:MB m.mem 1000000)(J:0<=x.b/\x.b<m.locks.length):CR 171 [(.pointer (some ⟨p,0,none⟩)),(.pointer (some ⟨tp.b,0,none⟩)),iE i,jj (⟨x.kind,x.a,x.b,G,I,x.to⟩:bK)] w (λv w'=>v=jj (⟨10,0,x.b,0,0⟩:bZ)/\ng F (sep (fb K tp.b m.room t) (lX K p (BA m i x) n tp)) w w'):=by
 have B:=(St.begin M).split;obtain⟨bp,Z,rg,cn,O,B⟩:=fb.open B;obtain⟨a,E,B⟩:=lX.open B.p4;refine pG Tryz.func171 (pl:=azQ) ?_;refine cP (x:=(⟨x.kind,x.a,x.b,G,I,x.to⟩:bK)) B (λBc _ B=>aJ B jQ λEP _ B=>aD (aA tH (have B:=B.drew;aB eD B.p2.hb rfl (aA fR (aB (v:=iE x.b) bL B.p1.hb rfl ?_)))));obtain⟨V,T8⟩:=gx m.locks (i:=x.b.toNat) cU;refine dN B.p4 dZ cU cU (λ_ U=>jm _ B.p4 bL U cU λ_ B=>aA fR (aB (v:=iE x.b) bL B.p2.hb rfl (pop (pg _ _) (aH (x:=(⟨10,0,x.b,0,0⟩:bZ)) B.p1 ey rfl rfl λ_ B=>aE ey B.At (have B:=fb.shut (room:=m.room) (t:=(⟨t.code,t.at_,t.aS,t.counts,t.fault,t.e,t.f,t.buf⟩:fN)) O B.za.za.za.za;have B:=lX.shut (m:=(BA m i x)) (⟨⟨E.1.ln,E.1.cl,E.1.rc,E.1.mem⟩,E.2⟩) B.p7.p7.p4.p7.p7;have B:=B.p2.drop.p2.drop.p1;⟨?_,?_⟩)))))
 .rfl
 skip;exact(St.join B).mut
def C172(K:iD)(p:Nat)(m:jU)(n:Nat)(tp:Ptr)(t:fN)(i:Int)(x:aU)(U W:SV)(F:Nat->Prop)(w:World)(hF:(sep (fb K tp.b m.room t) (lX K p m n tp)).p w F)(hK:∀w',gZ F w w'->K w')(xD:t.buf.length<=1000)(Jl:xg m.mem)(qy:MB m.mem 1000000)(hxb:0<=x.b/\x.b<m.locks.length):CR 172 [(.pointer (some ⟨p,0,none⟩)),(.pointer (some ⟨tp.b,0,none⟩)),iE i,jj (⟨x.kind,x.a,x.b,U,W,x.to⟩:bK)] w (λv w'=>v=jj (BB m i x)/\ng F (sep (fb K tp.b m.room t) (lX K p (sK m i x) n tp)) w w'):=by
 have B:=(St.begin hF).split;obtain⟨bp,gl,rg,cn,V,B⟩:=fb.open B;obtain⟨a,G,B⟩:=lX.open B.p4;refine pG Tryz.func172 (pl:=azR) ?_;refine cP (x:=(⟨x.kind,x.a,x.b,U,W,x.to⟩:bK)) B (λBc _ B=>aJ B jQ λEP _ B=>aD (aA tH (have B:=B.drew;aB eD B.p2.hb rfl (aA fR (aB (v:=iE x.b) bL B.p1.hb rfl ?_)))));obtain⟨Y,O⟩:=gx m.locks (i:=x.b.toNat) cU;refine dN B.p4 dZ cU cU (λ_ Dg=>gW B.p4 bL Dg O (cN (aC (λJ=>?_) λJ=>?_)))
 .refine aD (aA pM (aO B.p2 bL (ei rfl) (rfl) λ_ B=>aD (aA HK (aO B bL (ei rfl) (rfl) λ_ B=>pop (pg _ _) (aH (x:=(⟨16,0,3,0,0⟩:bZ)) B.p1 ey rfl rfl λ_ B=>aE ey B.At ?_)))));have E:m.locks.getD x.b.toNat 0=Y:=by rw[pd,O];rfl
  have I:sK m i x={m with fault:=3,fB:=i}:=by unfold sK;rw[E,ew J]
  have M:BB m i x=⟨16,0,3,0,0⟩:=by unfold BB;rw[E,ew J]
  have B:=fb.shut (room:=m.room) (t:=(⟨t.code,t.at_,t.aS,t.counts,t.fault,t.e,t.f,t.buf⟩:fN)) V B.za.za.za.za;have B:=lX.shut (m:={m with fault:=3,fB:=i}) (⟨⟨G.1.ln,G.1.cl,G.1.rc,G.1.mem⟩,G.2⟩) B.p7.p7.p7.p7.p6;have B:=B.p2.drop.p2.drop.p1;refine⟨?_,?_⟩
  .rw[M];try rfl
  rw[I];exact(St.join B).mut
 refine aD (aA tH (have B:=B.drew;aB eD B.p2.hb rfl (aA fR (aB (v:=iE x.b) bL B.p1.hb rfl (dN B.p4 dZ cU cU λ_ Z=>jm _ B.p4 bL Z cU λ_ B=>aA fR (aB (v:=iE x.b) bL B.p2.hb rfl (pop (pg _ _) (aH (x:=(⟨11,0,x.b,0,0⟩:bZ)) B.p1 ey rfl rfl λ_ B=>aE ey B.At ?_))))))));have E:m.locks.getD x.b.toNat 0=Y:=by rw[pd,O];rfl
 have I:sK m i x={m with locks:=m.locks.set x.b.toNat (-1)}:=by unfold sK;rw[E,ez (by simpa using J)]
 have M:BB m i x=⟨11,0,x.b,0,0⟩:=by unfold BB;rw[E,ez (by simpa using J)]
 have B:=fb.shut (room:=m.room) (t:=(⟨t.code,t.at_,t.aS,t.counts,t.fault,t.e,t.f,t.buf⟩:fN)) V B.za.za.za.za;have B:=lX.shut (m:={m with locks:=m.locks.set x.b.toNat (-1)}) (⟨⟨G.1.ln,G.1.cl,G.1.rc,G.1.mem⟩,G.2⟩) B.p7.p7.p4.p7.p7;have B:=B.p2.drop.p2.drop.p1;refine⟨?_,?_⟩
 .rw[M];try rfl
 rw[I];exact(St.join B).mut
def C168(K:iD)(p:Nat)(m:jU)(n:Nat)(tp:Ptr)(t:fN)(i:Int)(x:aU)(ge gf:SV)(F:Nat->Prop)(w:World)(hF:(sep (fb K tp.b m.room t) (lX K p m n tp)).p w F)(hK:∀w',gZ F w w'->K w')(xD:t.buf.length<=1000)(Jl:xg m.mem)(qy:MB m.mem 1000000)(Vm:x.kind=3\/x.kind=5\/x.kind=6\/x.kind=7)(Vn:x.kind=3->0<=x.b/\x.b<m.u.lines.length):CR 168 [(.pointer (some ⟨p,0,none⟩)),(.pointer (some ⟨tp.b,0,none⟩)),iE i,jj (⟨x.kind,x.a,x.b,ge,gf,x.to⟩:bK)] w (λv w'=>v=jj (uh m t x)/\ng F (sep (fb K tp.b m.room (xo m t x)) (lX K p m n tp)) w w'):=by
 have B:=(St.begin hF).split;obtain⟨O,gl,rg,cn,oh,B⟩:=fb.open B;obtain⟨a,G,B⟩:=lX.open B.p4;refine ags _ _ _ _ _ _ ?_;unfold S168;refine cP (x:=(⟨x.kind,x.a,x.b,ge,gf,x.to⟩:bK)) B (λBc _ B=>aJ B jQ λEP _ B=>zQ B λU _ B=>jd B Tryz.underlying352 qJ er λ_ B=>jd B Tryz.underlying352 qJ er λ_ B=>jd B Tryz.underlying352 qJ er λ_ B=>jd B Tryz.underlying352 qJ er λ_ B=>aA kQ (aB (v:=iE x.kind) bL B.p2.hb rfl (aA fR (aB (v:=iE x.b) bL B.p2.hb rfl (pop (BP _ _) (aJ B sP λZ _ B=>?_))))))
 refine aH (x:=(⟨x.kind,x.b,0,0⟩:bH)) B lP rfl rfl (λ_ B=>?_);refine⟨_,?_,λ_ h=>h⟩;refine aA kQ (aB (v:=iE x.kind) bL B.p3.hb rfl (aI (aC (λM=>?_) λM=>?_)))
 .have hxb:=Vn M;refine aD (aA wq (aA nV (have B:=B.drew;aB eD B.p4.hb rfl (aA fR (aB (v:=iE x.b) bL B.p3.hb rfl ?_)))));obtain⟨J,T7⟩:=gx m.u.lines (i:=x.b.toNat) cU;refine aW dZ (G.1.ln _ (hK _ B.aG)) cU T7 (λ_ Jm=>aE bL Jm (aA fR (aB (v:=iE x.b) bL B.p3.hb rfl (aD (aA wy (aB bL B.p9.hb rfl (aA kT (aO B bL (ei rfl) (rfl) λ_ B=>?_))))))));have B:=B.enc (cs':=jl ({ (⟨x.kind,x.b,0,0⟩:bH)with line:=J}:bH)) rfl;refine⟨aF bL (B.p3.hb.cell rfl),?_⟩
  refine⟨aF bL (B.p9.hb.cell rfl),?_⟩;refine aA nu (aO B bL (ei rfl) (rfl) λ_ B=>?_);have B:=B.enc (cs':=jl ({ ({ (⟨x.kind,x.b,0,0⟩:bH)with line:=J}:bH)with cell:=x.b}:bH)) rfl;refine⟨aF bL (B.p9.hb.cell rfl),?_⟩;refine aA mC (aO B bL (ei rfl) (rfl) λ_ B=>?_);have B:=B.enc (cs':=jl ({ ({ ({ (⟨x.kind,x.b,0,0⟩:bH)with line:=J}:bH)with cell:=x.b}:bH)with n:=t.e}:bH)) rfl;intro sQ;refine aD (aA tK (have B:=B.drew;aB sj B.p9.hb rfl ?_));have E:ql m t x=({ ({ ({ (⟨x.kind,x.b,0,0⟩:bH)with line:=J}:bH)with cell:=x.b}:bH)with n:=t.e}:bH):=by unfold ql;rw[ez M,pd,T7,<- M];rfl
  refine aE lP B.At (aT KN B.za (H':=λ_=>lV O m.room (qw m.room t.buf (ql m t x))) (Φ:=λ_ _=>True) (λF2 V dQ=>?_) ?_)
  .rw[E];exact(C164 O m.room t.buf ({ ({ ({ (⟨x.kind,x.b,0,0⟩:bH)with line:=J}:bH)with cell:=x.b}:bH)with n:=t.e}:bH) F2 _ V cU).mono λ_ _ r=>r.mono λ_ _ h=>⟨trivial,h.2⟩
  rintro _ Gx _ B;refine aA kQ (aB (v:=iE x.kind) bL B.p4.hb rfl ?_)
  have Y:(Go.Fw.look [3,5,6,7] [n5 .i64 3,iE 4,iE 5,iE 6] x.kind).getD (iE 0)=iE (Af x.kind):=by
   have I:=Vm
   rcases I with h|h|h|h<;>rw[h]<;>rfl
  refine⟨_,qM B.p2.Dc Tryz.underlying352 qJ qA,?_⟩;rw[show(Go.Fw.look ([]++[3]++[5]++[6]++[7]) ([]++[n5 .i64 3]++[n5 .i64 4]++[n5 .i64 5]++[n5 .i64 6]) x.kind).getD (iE 0)=iE (Af x.kind)from Y];refine aA fR (aB (v:=iE x.b) bL B.p4.hb rfl (aA mC (aB (v:=iE (({ ({ ({ (⟨x.kind,x.b,0,0⟩:bH)with line:=J}:bH)with cell:=x.b}:bH)with n:=t.e}:bH).n)) bL B.p1.hb rfl (pop (l8 _ _ _) (aH (x:=(⟨(Af x.kind),0,x.b,({ ({ ({ (⟨x.kind,x.b,0,0⟩:bH)with line:=J}:bH)with cell:=x.b}:bH)with n:=t.e}:bH).n,0⟩:bZ)) B.p3 ey rfl rfl λW B=>aE ey B.At (have B:=fb.shut (room:=m.room) (t:=(⟨t.code,t.at_,t.aS,t.counts,t.fault,t.e,t.f,(qw m.room t.buf (ql m t x))⟩:fN)) oh B.p12.p12.p3.p12;have B:=((lX.shut (m:=m) (⟨⟨G.1.ln,G.1.cl,G.1.rc,G.1.mem⟩,G.2⟩) B.p9.p9.p9.p9.p9).p2).drop;have B:=B.p2.drop.p2.drop.p2.drop.p1;⟨?_,?_⟩))))))
  .unfold uh;rw[E]
  rw[show xo m t x=(⟨t.code,t.at_,t.aS,t.counts,t.fault,t.e,t.f,(qw m.room t.buf (ql m t x))⟩:fN)from rfl];exact(St.join B).mut
 intro sQ;refine aD (aA tK (have B:=B.drew;aB sj B.p9.hb rfl ?_));have E:ql m t x=(⟨x.kind,x.b,0,0⟩:bH):=by unfold ql;rw[ew M]
 refine aE lP B.At (aT KN B.za (H':=λ_=>lV O m.room (qw m.room t.buf (ql m t x))) (Φ:=λ_ _=>True) (λF2 V dQ=>?_) ?_)
 .rw[E];exact(C164 O m.room t.buf (⟨x.kind,x.b,0,0⟩:bH) F2 _ V cU).mono λ_ _ r=>r.mono λ_ _ h=>⟨trivial,h.2⟩
 rintro _ Gx _ B;refine aA kQ (aB (v:=iE x.kind) bL B.p4.hb rfl ?_)
 have Y:(Go.Fw.look [3,5,6,7] [n5 .i64 3,iE 4,iE 5,iE 6] x.kind).getD (iE 0)=iE (Af x.kind):=by
  have I:=Vm
  rcases I with h|h|h|h<;>rw[h]<;>rfl
 refine⟨_,qM B.p2.Dc Tryz.underlying352 qJ qA,?_⟩;rw[show(Go.Fw.look ([]++[3]++[5]++[6]++[7]) ([]++[n5 .i64 3]++[n5 .i64 4]++[n5 .i64 5]++[n5 .i64 6]) x.kind).getD (iE 0)=iE (Af x.kind)from Y];refine aA fR (aB (v:=iE x.b) bL B.p4.hb rfl (aA mC (aB (v:=iE ((⟨x.kind,x.b,0,0⟩:bH).n)) bL B.p1.hb rfl (pop (l8 _ _ _) (aH (x:=(⟨(Af x.kind),0,x.b,(⟨x.kind,x.b,0,0⟩:bH).n,0⟩:bZ)) B.p3 ey rfl rfl λW B=>aE ey B.At (have B:=fb.shut (room:=m.room) (t:=(⟨t.code,t.at_,t.aS,t.counts,t.fault,t.e,t.f,(qw m.room t.buf (ql m t x))⟩:fN)) oh B.p12.p12.p3.p12;have B:=((lX.shut (m:=m) (⟨⟨G.1.ln,G.1.cl,G.1.rc,G.1.mem⟩,G.2⟩) B.p9.p9.p9.p9.p9).p2).drop;have B:=B.p2.drop.p2.drop.p2.drop.p1;⟨?_,?_⟩))))))
 .unfold uh;rw[E]
 rw[show xo m t x=(⟨t.code,t.at_,t.aS,t.counts,t.fault,t.e,t.f,(qw m.room t.buf (ql m t x))⟩:fN)from rfl];exact(St.join B).mut
def gB(m:Mem)(x:bH):Mem:=if x.kind=3 then gN m x.cell x.n else if x.kind=7 then m else sW m x.line
def mI(t:Int)(x:bH):bZ:=if x.kind=3 then⟨12,t,x.cell,x.n,0⟩else if x.kind=7 then⟨14,t,0,0,0⟩else⟨13,t,x.line,0,0⟩
def nK(m:jU)(t:fN)(p:cC):jU:={m with mem:=gB m.mem (cO t.buf p.i),l:=m.l.set p.t.toNat {t with buf:=iH t.buf p.i}}
section
variable {m:jU}{t:fN}{i:Int}{x:aU}
theorem xp:(dS m t i x).1.room=m.room:=by
 unfold dS yb BA sK;repeat' split
 all_goals rfl
theorem Ff:(dS m t i x).1.l=m.l:=by
 unfold dS yb BA sK;repeat' split
 all_goals rfl
theorem T9:(dS m t i x).1.u=m.u:=by
 unfold dS yb BA sK;repeat' split
 all_goals rfl
theorem DG:(dS m t i x).2.1.at_=t.at_:=by
 unfold dS loadT casT xo;repeat' split
 all_goals rfl
theorem qT:(dS m t i x).2.1.code=t.code:=by
 unfold dS loadT casT xo;repeat' split
 all_goals rfl
theorem adM{room:Int}{l:List bH}{y:bH}:(qw room l y).length<=l.length\/((qw room l y).length:Int)<=room:=by
 grind[qw]
theorem NK(h:G8 t)(B:m.room<=16):G8 (dS m t i x).2.1:=by
 have h1:=h.rg;have h2:=h.cn;have h3:=h.Sr;have h4:=h.bl
 have h5:=adM (room:=m.room) (l:=t.buf) (y:=ql m t x)
 unfold dS loadT casT xo
 repeat' split
 all_goals first
  | exact h
  | exact⟨h.code,by simpa using h1,h2,h3,h4⟩
  | exact⟨h.code,h1,h2,h3,by dsimp only;omega⟩
end
def nL(N:Nat)(m:jU)(i:Int):Option (jU×bZ):=match m.l[i.toNat]? with
 | none=>none
 | some t=>if t.fault≠0 then some ({m with fault:=t.fault,fB:=i},⟨16,i,t.fault,0,0⟩)else match gj t with
  | none=>none
  | some x=>if (dS m t i x).1.fault=0 then
    (tm N { (dS m t i x).2.1 with at_:=(dS m t i x).2.1.at_+1}).map λt2=>({ (dS m t i x).1 with l:=(dS m t i x).1.l.set i.toNat t2},{ (dS m t i x).2.2 with t:=i})
   else some ({ (dS m t i x).1 with l:=(dS m t i x).1.l.set i.toNat (dS m t i x).2.1},{ (dS m t i x).2.2 with t:=i})
theorem AS{N:Nat}{m B:jU}{i:Int}{t:fN}{ev:bZ}(h:nL N m i=some (B,ev))(ht:m.l[i.toNat]?=some t)(E:t.fault≠0):B={m with fault:=t.fault,fB:=i}/\ev=⟨16,i,t.fault,0,0⟩:=by
 unfold nL at h;rw[ht]at h;dsimp only at h;rw[ez E]at h
 have:=o5.inj h
 exact⟨(gD P1 this).symm,(gD adb this).symm⟩
theorem DH{N:Nat}{m B:jU}{i:Int}{t:fN}{ev:bZ}(h:nL N m i=some (B,ev))(ht:m.l[i.toNat]?=some t)(E:¬ t.fault≠0):∃x,gj t=some x:=by
 unfold nL at h;rw[ht]at h;dsimp only at h;rw[ew E]at h
 cases hn:gj t with
 | none=>rw[hn]at h;cases h
 | some x=>exact⟨x,rfl⟩
theorem AT{N:Nat}{m B:jU}{i:Int}{t:fN}{x:aU}{ev:bZ}(h:nL N m i=some (B,ev))(ht:m.l[i.toNat]?=some t)(I:¬ t.fault≠0)(G:gj t=some x)(E:(dS m t i x).1.fault=0) :
  ∃t2,tm N { (dS m t i x).2.1 with at_:=(dS m t i x).2.1.at_+1}=some t2/\B={ (dS m t i x).1 with l:=(dS m t i x).1.l.set i.toNat t2}/\ev={ (dS m t i x).2.2 with t:=i}:=by
 unfold nL at h;rw[ht]at h;dsimp only at h;rw[ew I,G]at h;dsimp only at h;rw[ez E]at h
 cases hg:tm N { (dS m t i x).2.1 with at_:=(dS m t i x).2.1.at_+1}with
 | none=>rw[hg]at h;cases h
 | some t2=>
  rw[hg]at h
  have:=o5.inj h
  exact⟨t2,rfl,(gD P1 this).symm,(gD adb this).symm⟩
theorem AU{N:Nat}{m B:jU}{i:Int}{t:fN}{x:aU}{ev:bZ}(h:nL N m i=some (B,ev))(ht:m.l[i.toNat]?=some t)(I:¬ t.fault≠0)(G:gj t=some x)(E:¬ (dS m t i x).1.fault=0) :
  B={ (dS m t i x).1 with l:=(dS m t i x).1.l.set i.toNat (dS m t i x).2.1}/\ev={ (dS m t i x).2.2 with t:=i}:=by
 unfold nL at h;rw[ht]at h;dsimp only at h;rw[ew I,G]at h;dsimp only at h;rw[ew E]at h
 have:=o5.inj h
 exact⟨(gD P1 this).symm,(gD adb this).symm⟩
def adN:List Int:=[]++[2]++[3]++[5]++[6]++[7]++[4]++[8]++[9]++[10]
def Ua(g:Nat):Value:=.func (.func g) #[] #[]
def adO:List Value:=[]++[Ua 167]++[Ua 168]++[Ua 168]++[Ua 168]++[Ua 168]++[Ua 169]++[Ua 170]++[Ua 171]++[Ua 172]
def adP(K:iD)(p:Nat)(m:jU)(n:Nat)(tp:Ptr)(t:fN)(i:Int)(x:aU)(G I:SV)(Z:2<=x.kind/\x.kind<=10)(J:t.buf.length<=1000)(M:xg m.mem)(O:MB m.mem 1000000)
  (V:x.kind=2\/x.kind=4->0<=x.a/\x.a<t.aS.length) (U:x.kind=9\/x.kind=10->0<=x.b/\x.b<m.locks.length) (W:x.kind=3->0<=x.b/\x.b<m.u.lines.length) :
  ∃g,Go.Fw.look adN adO x.kind=some (Ua g)/\Plain hZ g/\∀(F:Nat->Prop) (w:World),(sep (fb K tp.b m.room t) (lX K p m n tp)).p w F->(∀w',gZ F w w'->K w')->
   Calls hZ g [.pointer (some ⟨p,0,none⟩),.pointer (some ⟨tp.b,0,none⟩),iE i,jj (⟨x.kind,x.a,x.b,G,I,x.to⟩:bK)].toArray w
    (rZ λv w'=>v=jj (dS m t i x).2.2/\ng F (sep (fb K tp.b (dS m t i x).1.room (dS m t i x).2.1) (lX K p (dS m t i x).1 n tp)) w w'):=by
 have Y:=xp (m:=m) (t:=t) (i:=i) (x:=x)
 rw[Y]
 obtain h|h|h|h|h|h|h|h|h:x.kind=2\/x.kind=3\/x.kind=4\/x.kind=5\/x.kind=6\/x.kind=7\/x.kind=8\/x.kind=9\/x.kind=10:=cU
 .exact⟨167,by rw[h];rfl,aq8,λF w B E=>by
   have e:dS m t i x=(m,loadT m t x,Jk m t x):=by unfold dS;rw[ez h]
   rw[e];exact C167 K p m n tp t i x G I F w B E J M O (V (.inl h))⟩
 .exact⟨168,by rw[h];rfl,Vz,λF w B E=>by
   have e:dS m t i x=(m,xo m t x,uh m t x):=by unfold dS;simp[h]
   rw[e];exact C168 K p m n tp t i x G I F w B E J M O (.inl h) W⟩
 .exact⟨169,by rw[h];rfl,aq9,λF w B E=>by
   have e:dS m t i x=(yb m t x,casT m t x,NJ m t x):=by unfold dS;simp[h]
   rw[e];exact C169 K p m n tp t i x G I F w B E J M O (V (.inr h))⟩
 .exact⟨168,by rw[h];rfl,Vz,λF w B E=>by
   have e:dS m t i x=(m,xo m t x,uh m t x):=by unfold dS;simp[h]
   rw[e];exact C168 K p m n tp t i x G I F w B E J M O (.inr (.inl h)) W⟩
 .exact⟨168,by rw[h];rfl,Vz,λF w B E=>by
   have e:dS m t i x=(m,xo m t x,uh m t x):=by unfold dS;simp[h]
   rw[e];exact C168 K p m n tp t i x G I F w B E J M O (.inr (.inr (.inl h))) W⟩
 .exact⟨168,by rw[h];rfl,Vz,λF w B E=>by
   have e:dS m t i x=(m,xo m t x,uh m t x):=by unfold dS;simp[h]
   rw[e];exact C168 K p m n tp t i x G I F w B E J M O (.inr (.inr (.inr h))) W⟩
 .exact⟨170,by rw[h];rfl,ara,λF w B E=>by
   have e:dS m t i x=(m,t,⟨7,0,0,0,0⟩):=by unfold dS;simp[h]
   rw[e];exact C170 K p m n tp t i x G I F w B E J M O⟩
 .exact⟨171,by rw[h];rfl,arb,λF w B E=>by
   have e:dS m t i x=(BA m i x,t,⟨10,0,x.b,0,0⟩):=by unfold dS;simp[h]
   rw[e];exact C171 K p m n tp t i x G I F w B E J M O (U (.inl h))⟩
 exact⟨172,by rw[h];rfl,arc,λF w B E=>by
  have e:dS m t i x=(sK m i x,t,BB m i x):=by unfold dS;simp[h]
  rw[e];exact C172 K p m n tp t i x G I F w B E J M O (U (.inr h))⟩
theorem adQ{k:Int}{g:Nat}{z:Value}(h:Go.Fw.look adN adO k=some (Ua g)):(Go.Fw.look ([]++[2]++[3]++[5]++[6]++[7]++[4]++[8]++[9]++[10]) ([]++[zI (.func 167) #[] #[]]++[zI (.func 168) #[] #[]]++[zI (.func 168) #[] #[]]++[zI (.func 168) #[] #[]]++[zI (.func 168) #[] #[]]++[zI (.func 169) #[] #[]]++[zI (.func 170) #[] #[]]++[zI (.func 171) #[] #[]]++[zI (.func 172) #[] #[]]) k).getD z=Ua g:=by
 have h2:Go.Fw.look ([]++[2]++[3]++[5]++[6]++[7]++[4]++[8]++[9]++[10]) ([]++[zI (.func 167) #[] #[]]++[zI (.func 168) #[] #[]]++[zI (.func 168) #[] #[]]++[zI (.func 168) #[] #[]]++[zI (.func 168) #[] #[]]++[zI (.func 169) #[] #[]]++[zI (.func 170) #[] #[]]++[zI (.func 171) #[] #[]]++[zI (.func 172) #[] #[]]) k=some (Ua g):=h
 rw[h2];rfl
def C89(K:iD)(p:Nat)(m:jU)(q:cC)(qv:cY)(t:fN)(F:Nat->Prop)(w:World)(hF:(fZ K p m).p w F)(hK:∀w',gZ F w w'->K w')(iT:xm m)(qy:MB m.mem 1000000)(hq:n4 w qv q)(h0:0<=q.t)(ht:m.l[q.t.toNat]?=some t):CR 89 [(.pointer (some ⟨p,0,none⟩)),jj qv] w (λv w'=>v=jj (mI q.t (cO t.buf q.i))/\ng F (fZ K p (nK m t q)) w w'):=by
 have B:=St.begin hF;obtain⟨a,E,B⟩:=fZ.open B;have oK:=B.p4.gh;obtain⟨G9,rfl,WT⟩:=hq;have xD:=(iT.th t (ml ht)).bl;have l6:=(j0.1 ht).1;refine aml _ _ _ _ ?_;unfold S89;refine cP B (λJn _ B=>aJ B jQ λQ6 _ B=>?_);refine⟨_,?_,λ_ _ h=>h⟩;refine aD (aA tI (have B:=B.drew;aB CJ B.p2.hb rfl (aA im (aB (v:=iE q.t) bL B.p1.hb rfl ?_))));obtain⟨jz,W⟩:=gx a.ps (i:=q.t.toNat) cU;refine dN B.p5 FM cU cU (λ_ gC=>gW B.p5 KW gC W ?_)
 have B:=adK B.p6 W ht;obtain⟨bp,gl,rg,cn,Z,B⟩:=fb.open B;refine aD (aA tK (aB sj B.hb rfl (aA qY (aB (v:=iE q.i) bL B.p6.hb rfl ⟨?_,⟨?_,?_⟩⟩))))
 .refine aT Vy B.p1 (H':=λ_=>lV bp m.room (iH t.buf q.i)) (Φ:=λv _=>v=.tuple #[jj (cO t.buf q.i),iE (Aa t.buf q.i)]) (λV M Y=>?_) ?_
  .exact C158 bp m.room t.buf q.i V _ M cU
  rintro _ _ rfl B;refine aN rfl (aN rfl (aJ B sP λA9 _ B=>?_));refine⟨aF CJ (B.p8.hb.cell rfl),?_⟩;refine⟨aF bL (B.p7.hb.cell rfl),?_⟩;refine⟨GY B.p11 KW gC W,?_⟩;refine⟨aF sj (B.p2.hb.cell rfl),?_⟩;refine⟨aF bL (B.p7.hb.cell rfl),?_⟩;refine aH (x:=(cO t.buf q.i)) B lP rfl rfl (λ_ B=>?_);intro sQ;refine aA pR (aB (v:=iE ((cO t.buf q.i).kind)) bL B.hb rfl (aI (aC (λJ=>?_) λJ=>aI (aC (λU=>?_) λU=>?_))))
  .refine aD (aA mz (have B:=B.drew;aB mT B.p8.hb rfl (aA nu (aB (v:=iE ((cO t.buf q.i).cell)) bL B.hb rfl (aA mC (aB (v:=iE ((cO t.buf q.i).n)) bL B.hb rfl (aT O4 B.p9 (H':=λ_=>fE a.q a.ov a.fv (gN m.mem (cO t.buf q.i).cell (cO t.buf q.i).n)) (Φ:=λ_ _=>True) (λV M Y=>?_) ?_)))))))
   .exact(C159 a.q a.ov a.fv m.mem V _ _ _ M (λw' hc=>E.mem _ (hK w' (Y w' hc).aG)) iT.mem qy).mono λ_ _ r=>r.mono λ_ _ h=>⟨trivial,h.2⟩
   rintro _ w10 _ B;refine aA im (aB (v:=iE q.t) bL B.p8.hb rfl (aA nu (aB (v:=iE ((cO t.buf q.i).cell)) bL B.p1.hb rfl (aA mC (aB (v:=iE ((cO t.buf q.i).n)) bL B.p1.hb rfl (pop (vE _ _ _ _) (aH (x:=(⟨12,q.t,(cO t.buf q.i).cell,(cO t.buf q.i).n,0⟩:bZ)) B.p7 ey rfl rfl λw11 B=>aE ey B.At ?_)))))));have B:=(fb.shut (room:=m.room) (t:={t with buf:=iH t.buf q.i}) Z B.p6.p6.p5.p6).p4;have B:=St.q8 (H:=uP K m.room) (x:={t with buf:=iH t.buf q.i}) B.p1 (by have:=(j0.1 ht).1;omega) oK W
   have I:gB m.mem (cO t.buf q.i)=gN m.mem (cO t.buf q.i).cell (cO t.buf q.i).n:=by unfold gB;rw[ez J]
   have O:mI q.t (cO t.buf q.i)=⟨12,q.t,(cO t.buf q.i).cell,(cO t.buf q.i).n,0⟩:=by unfold mI;rw[ez J]
   have B:=(show St w F (bU p (nJ a (nK m t q))::fE a.q a.ov a.fv (nK m t q).mem::_) _ from by unfold nK;rw[I];exact B.p7.p7.p4.p7);have B:=fZ.shut (m:=nK m t q) ⟨E.ln,E.cl,E.rc,λw G=>by show vR _ _ (gB m.mem _) w;rw[I];first|exact E.mem w G|exact(E.mem w G).write|exact(E.mem w G).out⟩ B;have B:=B.p1.drop.p1.drop.p1.drop;refine⟨?_,B.mut⟩;rw[O]
  .refine aA im (aB (v:=iE q.t) bL B.p7.hb rfl (pop (EI _ _) (aH (x:=(⟨14,q.t,0,0,0⟩:bZ)) B.p6 ey rfl rfl λw12 B=>aE ey B.At ?_)));have B:=(fb.shut (room:=m.room) (t:={t with buf:=iH t.buf q.i}) Z B.p5.p5.p4.p5).p3;have B:=St.q8 (H:=uP K m.room) (x:={t with buf:=iH t.buf q.i}) B.p1 (by have:=(j0.1 ht).1;omega) oK W;have I:gB m.mem (cO t.buf q.i)=m.mem:=by unfold gB;rw[ew J,ez U]
   have O:mI q.t (cO t.buf q.i)=⟨14,q.t,0,0,0⟩:=by unfold mI;rw[ew J,ez U]
   have B:=(show St w F (bU p (nJ a (nK m t q))::fE a.q a.ov a.fv (nK m t q).mem::_) _ from by unfold nK;rw[I];exact B.p7.p7.p7.p7);have B:=fZ.shut (m:=nK m t q) ⟨E.ln,E.cl,E.rc,λw G=>by show vR _ _ (gB m.mem _) w;rw[I];first|exact E.mem w G|exact(E.mem w G).write|exact(E.mem w G).out⟩ B;have B:=B.p1.drop.p1.drop.p1.drop;refine⟨?_,B.mut⟩;rw[O]
  refine aD (aA mz (have B:=B.drew;aB mT B.p8.hb rfl (aA kT (aB (v:=iE ((cO t.buf q.i).line)) bL B.hb rfl (aT aaD B.p9 (H':=λ_=>fE a.q a.ov a.fv (sW m.mem (cO t.buf q.i).line)) (Φ:=λ_ _=>True) (λV M Y=>?_) ?_)))))
  .exact(C160 a.q a.ov a.fv m.mem V _ _ M (λw' hc=>E.mem _ (hK w' (Y w' hc).aG)) iT.mem qy).mono λ_ _ r=>r.mono λ_ _ h=>⟨trivial,h.2⟩
  rintro _ Z3 _ B;refine aA im (aB (v:=iE q.t) bL B.p8.hb rfl (aA kT (aB (v:=iE ((cO t.buf q.i).line)) bL B.p1.hb rfl (pop (rE _ _ _) (aH (x:=(⟨13,q.t,(cO t.buf q.i).line,0,0⟩:bZ)) B.p7 ey rfl rfl λGx B=>aE ey B.At ?_)))));have B:=(fb.shut (room:=m.room) (t:={t with buf:=iH t.buf q.i}) Z B.p6.p6.p5.p6).p4;have B:=St.q8 (H:=uP K m.room) (x:={t with buf:=iH t.buf q.i}) B.p1 (by have:=(j0.1 ht).1;omega) oK W;have I:gB m.mem (cO t.buf q.i)=sW m.mem (cO t.buf q.i).line:=by unfold gB;rw[ew J,ew U]
  have O:mI q.t (cO t.buf q.i)=⟨13,q.t,(cO t.buf q.i).line,0,0⟩:=by unfold mI;rw[ew J,ew U]
  have B:=(show St w F (bU p (nJ a (nK m t q))::fE a.q a.ov a.fv (nK m t q).mem::_) _ from by unfold nK;rw[I];exact B.p7.p7.p4.p7);have B:=fZ.shut (m:=nK m t q) ⟨E.ln,E.cl,E.rc,λw G=>by show vR _ _ (gB m.mem _) w;rw[I];first|exact E.mem w G|exact(E.mem w G).write|exact(E.mem w G).out⟩ B;have B:=B.p1.drop.p1.drop.p1.drop;refine⟨?_,B.mut⟩;rw[O]
 .refine aJ B sP (λaCd _ B=>?_);refine⟨aF CJ (B.p8.hb.cell rfl),?_⟩;refine⟨aF bL (B.p7.hb.cell rfl),?_⟩;refine⟨GY B.p11 KW gC W,?_⟩;refine⟨aF sj (B.p1.hb.cell rfl),?_⟩;refine⟨aF bL (B.p7.hb.cell rfl),?_⟩;refine aT Vy B.p2 (H':=λ_=>lV bp m.room (iH t.buf q.i)) (Φ:=λv _=>v=.tuple #[jj (cO t.buf q.i),iE (Aa t.buf q.i)]) (λV M Y=>?_) ?_
  .exact C158 bp m.room t.buf q.i V _ M cU
  rintro _ _ rfl B;refine aN rfl (aN rfl (aH (x:=(cO t.buf q.i)) B.p1 lP rfl rfl λ_ B=>?_));intro sQ;refine aA pR (aB (v:=iE ((cO t.buf q.i).kind)) bL B.hb rfl (aI (aC (λJ=>?_) λJ=>aI (aC (λU=>?_) λU=>?_))))
  .refine aD (aA mz (have B:=B.drew;aB mT B.p8.hb rfl (aA nu (aB (v:=iE ((cO t.buf q.i).cell)) bL B.hb rfl (aA mC (aB (v:=iE ((cO t.buf q.i).n)) bL B.hb rfl (aT O4 B.p9 (H':=λ_=>fE a.q a.ov a.fv (gN m.mem (cO t.buf q.i).cell (cO t.buf q.i).n)) (Φ:=λ_ _=>True) (λV M Y=>?_) ?_)))))))
   .exact(C159 a.q a.ov a.fv m.mem V _ _ _ M (λw' hc=>E.mem _ (hK w' (Y w' hc).aG)) iT.mem qy).mono λ_ _ r=>r.mono λ_ _ h=>⟨trivial,h.2⟩
   rintro _ w10 _ B;refine aA im (aB (v:=iE q.t) bL B.p8.hb rfl (aA nu (aB (v:=iE ((cO t.buf q.i).cell)) bL B.p1.hb rfl (aA mC (aB (v:=iE ((cO t.buf q.i).n)) bL B.p1.hb rfl (pop (vE _ _ _ _) (aH (x:=(⟨12,q.t,(cO t.buf q.i).cell,(cO t.buf q.i).n,0⟩:bZ)) B.p7 ey rfl rfl λw11 B=>aE ey B.At ?_)))))));have B:=(fb.shut (room:=m.room) (t:={t with buf:=iH t.buf q.i}) Z B.p6.p6.p5.p6).p4;have B:=St.q8 (H:=uP K m.room) (x:={t with buf:=iH t.buf q.i}) B.p1 (by have:=(j0.1 ht).1;omega) oK W
   have I:gB m.mem (cO t.buf q.i)=gN m.mem (cO t.buf q.i).cell (cO t.buf q.i).n:=by unfold gB;rw[ez J]
   have O:mI q.t (cO t.buf q.i)=⟨12,q.t,(cO t.buf q.i).cell,(cO t.buf q.i).n,0⟩:=by unfold mI;rw[ez J]
   have B:=(show St w F (bU p (nJ a (nK m t q))::fE a.q a.ov a.fv (nK m t q).mem::_) _ from by unfold nK;rw[I];exact B.p7.p7.p4.p7);have B:=fZ.shut (m:=nK m t q) ⟨E.ln,E.cl,E.rc,λw G=>by show vR _ _ (gB m.mem _) w;rw[I];first|exact E.mem w G|exact(E.mem w G).write|exact(E.mem w G).out⟩ B;have B:=B.p1.drop.p1.drop.p1.drop;refine⟨?_,B.mut⟩;rw[O]
  .refine aA im (aB (v:=iE q.t) bL B.p7.hb rfl (pop (EI _ _) (aH (x:=(⟨14,q.t,0,0,0⟩:bZ)) B.p6 ey rfl rfl λw12 B=>aE ey B.At ?_)));have B:=(fb.shut (room:=m.room) (t:={t with buf:=iH t.buf q.i}) Z B.p5.p5.p4.p5).p3;have B:=St.q8 (H:=uP K m.room) (x:={t with buf:=iH t.buf q.i}) B.p1 (by have:=(j0.1 ht).1;omega) oK W;have I:gB m.mem (cO t.buf q.i)=m.mem:=by unfold gB;rw[ew J,ez U]
   have O:mI q.t (cO t.buf q.i)=⟨14,q.t,0,0,0⟩:=by unfold mI;rw[ew J,ez U]
   have B:=(show St w F (bU p (nJ a (nK m t q))::fE a.q a.ov a.fv (nK m t q).mem::_) _ from by unfold nK;rw[I];exact B.p7.p7.p7.p7);have B:=fZ.shut (m:=nK m t q) ⟨E.ln,E.cl,E.rc,λw G=>by show vR _ _ (gB m.mem _) w;rw[I];first|exact E.mem w G|exact(E.mem w G).write|exact(E.mem w G).out⟩ B;have B:=B.p1.drop.p1.drop.p1.drop;refine⟨?_,B.mut⟩;rw[O]
  refine aD (aA mz (have B:=B.drew;aB mT B.p8.hb rfl (aA kT (aB (v:=iE ((cO t.buf q.i).line)) bL B.hb rfl (aT aaD B.p9 (H':=λ_=>fE a.q a.ov a.fv (sW m.mem (cO t.buf q.i).line)) (Φ:=λ_ _=>True) (λV M Y=>?_) ?_)))))
  .exact(C160 a.q a.ov a.fv m.mem V _ _ M (λw' hc=>E.mem _ (hK w' (Y w' hc).aG)) iT.mem qy).mono λ_ _ r=>r.mono λ_ _ h=>⟨trivial,h.2⟩
  rintro _ Z3 _ B;refine aA im (aB (v:=iE q.t) bL B.p8.hb rfl (aA kT (aB (v:=iE ((cO t.buf q.i).line)) bL B.p1.hb rfl (pop (rE _ _ _) (aH (x:=(⟨13,q.t,(cO t.buf q.i).line,0,0⟩:bZ)) B.p7 ey rfl rfl λGx B=>aE ey B.At ?_)))));have B:=(fb.shut (room:=m.room) (t:={t with buf:=iH t.buf q.i}) Z B.p6.p6.p5.p6).p4;have B:=St.q8 (H:=uP K m.room) (x:={t with buf:=iH t.buf q.i}) B.p1 (by have:=(j0.1 ht).1;omega) oK W;have I:gB m.mem (cO t.buf q.i)=sW m.mem (cO t.buf q.i).line:=by unfold gB;rw[ew J,ew U]
  have O:mI q.t (cO t.buf q.i)=⟨13,q.t,(cO t.buf q.i).line,0,0⟩:=by unfold mI;rw[ew J,ew U]
  have B:=(show St w F (bU p (nJ a (nK m t q))::fE a.q a.ov a.fv (nK m t q).mem::_) _ from by unfold nK;rw[I];exact B.p7.p7.p4.p7);have B:=fZ.shut (m:=nK m t q) ⟨E.ln,E.cl,E.rc,λw G=>by show vR _ _ (gB m.mem _) w;rw[I];first|exact E.mem w G|exact(E.mem w G).write|exact(E.mem w G).out⟩ B;have B:=B.p1.drop.p1.drop.p1.drop;refine⟨?_,B.mut⟩;rw[O]
 trivial
def C90(K:iD)(p:Nat)(m:jU)(N:Nat)(i:Int)(t:fN)(m2:jU)(ev:bZ)(F:Nat->Prop)(w:World)(hF:(fZ K p m).p w F)(W:∀w',gZ F w w'->K w')(E:xm m)(qy:MB m.mem 1000000)(h0:0<=i)(ht:m.l[i.toNat]?=some t)(Z:nL N m i=some (m2,ev)):CR 90 [(.pointer (some ⟨p,0,none⟩)),iE i] w (λv w'=>v=jj ev/\ng F (fZ K p m2) w w'):=by
 have B:=St.begin hF;obtain⟨a,U,B⟩:=fZ.open B;have oK:=B.p4.gh;have O:=ml ht;have J:=E.th t O;have l6:=(j0.1 ht).1;refine amm _ _ _ _ ?_;unfold S90;refine aJ B jQ (λQ6 _ B=>aD (aA tI (aB CJ B.p1.hb rfl ?_)));obtain⟨I,Y⟩:=gx a.ps (i:=(i).toNat) cU;refine dN B.p4 FM cU cU (λ_ Dg=>gW B.p4 KW Dg Y ?_);have B:=adK B.p5 Y ht;obtain⟨bp,gl,rg,cn,oh,B⟩:=fb.open B;refine aD (aA wx (aB bL B.hb rfl (cN (aC (λV=>?_) λV=>?_))))
 .refine aD (aA wx (aB bL B.hb rfl (aD (aA pM (aO B.p6 bL (ei rfl) (rfl) λ_ B=>aD (aA HK (aO B bL (ei rfl) (rfl) λ_ B=>aD (aA wx (aB bL B.p1.hb rfl (pop (rE _ _ _) ?_))))))))));refine aH (x:=(⟨16,i,t.fault,0,0⟩:bZ)) B.p6 ey rfl rfl (λ_ B=>aE ey B.At ?_);have B:=St.q8 (H:=uP K m.room) (x:=t) (((fb.shut (room:=m.room) (t:=t) oh B.p5.p5.p5.p5).p3).p1) (by have:=(j0.1 ht).1;omega) oK Y;rw[pW ht]at B;have B:=fZ.shut (m:={m with fault:=t.fault,fB:=i}) ⟨U.ln,U.cl,U.rc,U.mem⟩ B.p5.p5.p5.p5
  have B:=B.p1.drop;obtain⟨rfl,rfl⟩:=AS Z ht V;exact⟨rfl,B.mut⟩
 have B:=fb.shut (room:=m.room) (t:=t) oh B.p3.p3.p3.p3;obtain⟨x,M⟩:=DH Z ht V;refine eC agj (C72 K I.b m.room t _ B.has (W _ B.aG) J) ?_;rintro v41 _ hh;obtain⟨x2,xv,aCe,AR,rfl,he⟩:=hh.resolve_left (λh=>by rw[M]at h;cases h.1);obtain rfl:x=x2:=o5.inj (M.symm.trans aCe);have B:=B.ext he;have G:=tg M;obtain⟨ge,gf,rfl,_,_⟩:=AR _ (W _ B.aG);have Vm:=E.st t O x M cU;refine aN rfl (aN rfl (aJ B oN λTY _ B=>have B:=B.enc (cs':=jl (⟨0,0,0,bO,bO,0⟩:bK)) rfl;aH (x:=(⟨x.kind,x.a,x.b,ge,gf,x.to⟩:bK)) B ie rfl rfl λ_ B=>zQ B λb_x44 _ B=>jd B Tryz.underlying273 qJ er λ_ B=>jd B Tryz.underlying273 qJ er λ_ B=>jd B Tryz.underlying273 qJ er λ_ B=>jd B Tryz.underlying273 qJ er λ_ B=>jd B Tryz.underlying273 qJ er λ_ B=>jd B Tryz.underlying273 qJ er λ_ B=>jd B Tryz.underlying273 qJ er λ_ B=>jd B Tryz.underlying273 qJ er λ_ B=>?_))
 refine jd B Tryz.underlying273 qJ er (λ_ B=>aA kQ (aB (v:=iE x.kind) bL B.p1.hb rfl ?_));have Z4:=J.rg;have J9:=E.lk;obtain⟨g,avG,mM,g9⟩:=adP K p m i.toNat I t i x ge gf Vm J.bl E.mem qy (λh=>by have:=E.avv t O x G.1 h;omega) (λh=>by have:=E.lkb t O x G.1 h;omega) (E.lnb t O x G.1);refine⟨_,qM B.Dc Tryz.underlying273 qJ agQ,?_⟩;rw[adQ avG];refine aE ie B.p1.At (have B:=lX.shut (m:=m) (⟨U,Y,oK,cU⟩) B.p3.p8.p8.p8.p8;have B:=St.join B.p3;zR (first:=[]) (cap:=[]) mM B (H':=λ_=>sep (fb K I.b (dS m t i x).1.room (dS m t i x).2.1) (lX K p (dS m t i x).1 i.toNat I)) (Φ:=λv _=>v=jj (dS m t i x).2.2) (λF2 ed dQ=>?_) ?_)
 .exact g9 F2 _ ed (λw' hc=>W w' (dQ w' hc).aG)
 rintro _ _ rfl B;refine aJ B jQ (λb_e9 _ B=>aH (x:=(dS m t i x).2.2) B ey rfl rfl λ_ B=>aA VM (aO B bL (ei rfl) (rfl) λ_ B=>?_));have B:=B.enc (cs':=jl ({ (dS m t i x).2.2 with t:=i}:bZ)) rfl;refine⟨_,?_,λ_ h=>h⟩;refine aD ?_;have B:=B.p1.split.p1;obtain⟨a2,hx,B⟩:=lX.open B;refine aA pM (aB bL B.hb rfl (aI (aC (λnM=>?_) λnM=>?_)))
 .have B:=lX.shut (m:=(dS m t i x).1) hx B.p4.p4.p4.p4.p4;obtain⟨t2,hg,rfl,rfl⟩:=AT Z ht V M nM;have wg:(dS m t i x).2.1.at_=t.at_:=DG;have F9:=J.code.len;have aB8:=J.Sr;have B:=B.p1;obtain⟨bp,gl,rg,cn,oh,B⟩:=fb.open B;refine aD (aA lH (aB bL B.hb rfl (aR cU (aD (aA lH (aO B bL (ei rfl) (rfl) λ_ B=>?_))))));have B:=fb.shut (room:=(dS m t i x).1.room) (t:=(⟨(dS m t i x).2.1.code,((dS m t i x).2.1.at_+1),(dS m t i x).2.1.aS,(dS m t i x).2.1.counts,(dS m t i x).2.1.fault,(dS m t i x).2.1.e,(dS m t i x).2.1.f,(dS m t i x).2.1.buf⟩:fN)) oh B.p3.p3.p3.p3
  have oZ:=NK (m:=m) (t:=t) (i:=i) (x:=x) J E.rm.2;have Ub:G8 { (dS m t i x).2.1 with at_:=(dS m t i x).2.1.at_+1}:=⟨oZ.code,oZ.rg,oZ.cn,by dsimp only;omega,oZ.bl⟩;refine aT ajE B (H':=λ_=>fb K I.b (dS m t i x).1.room t2) (Φ:=λ_ _=>True) (λF2 ed dQ=>?_) ?_
  .exact(C142 K I.b (dS m t i x).1.room { (dS m t i x).2.1 with at_:=(dS m t i x).2.1.at_+1} t2 N F2 _ ed (λw' hc=>W w' (dQ w' hc).aG) Ub hg).mono λ_ _ r=>r.mono λ_ _ h=>⟨trivial,h.2⟩
  rintro _ _ _ B;intro sQ;exact aE ey B.p2.At (aH (x:=({ (dS m t i x).2.2 with t:=i}:bZ)) B.p5 ey rfl rfl λ_ B=>aE ey B.At (have B:=((((((((Rf B.p2.p2).p1).drop).p1).drop).p1).drop).p1).drop;⟨rfl,B.mut⟩))
 intro sQ;refine aE ey B.p6.At (aH (x:=({ (dS m t i x).2.2 with t:=i}:bZ)) B.p9 ey rfl rfl λw25 B=>aE ey B.At ?_);have B:=((((Rf ((lX.shut (m:=(dS m t i x).1) hx B.p5.p5.p5.p5.p5).p2)).p1).drop).p1).drop;have B:=B.p1.drop.p1.drop;obtain⟨rfl,rfl⟩:=AU Z ht V M nM;exact⟨rfl,B.mut⟩
end Go.Proofs.YtdncbeepkacgbaaGreatDoor
namespace Go.Fw
def kp(F:Nat->Prop)(w0 w':World):Prop:=∀b,F b->w'.heap[b]?=w0.heap[b]?
section
variable {α σ:Type}[Flat σ] [D:Deep α σ] {w w0:World}{A F:Nat->Prop}{L:List HP}{v:Value}{xs:List α}{ts us:List σ}
theorem St.Rl{Φ:iD}(E:St w0 A (Fw.ep Φ::L) w):∃F,St w0 A (Fw.ep (kp F w)::L) w/\∀w',kp F w w'->Φ w':=by
 obtain⟨U,F,G,B,J,O,I,M⟩:=E.vC
 exact⟨F,⟨E.aG,U,F,G,⟨λw' h=>h,B.2⟩,J,O,I,M⟩,λw' h=>B.1 w' h⟩
theorem kp.refl(F:Nat->Prop)(w:World):kp F w w:=λ_ _=>rfl
theorem Rm(B:∀x y:σ,jl x=jl y->x=y):∀{ts us:List σ},ts.length=us.length->flat ts=flat us->ts=us
 | [],[],_,_=>rfl
 | t::ts,u::us,hl,h=>by
  rw[j7,j7]at h
  have:=List.append_inj h (by rw[wU,wU])
  rw[B _ _ this.1,Rm B dH this.2]
 | [],_::_,hl,_=>by simp at hl
 | _::_,[],hl,_=>by simp at hl
theorem dP.func{S V:Nat->Prop}(E:∀x y:σ,jl x=jl y->x=y)(h:dP S w v ts)(U:dP V w v us):ts=us:=by
 obtain⟨a,cap,rfl,hc,h3⟩:=h
 obtain⟨Z,Kf,O,GA,G⟩:=U
 simp only[yR.injEq]at O
 obtain⟨rfl,M,rfl⟩:=O
 refine Rm E M (List.ext_getElem? λj=>?_)
 have J3:(flat ts).length=(flat us).length:=by rw[dO,dO,M]
 by_cases Y:j<(flat ts).length
 .have B:j<(flat us).length:=cU
  rcases h3 with⟨rfl,_⟩|⟨b,o,rfl,_,h5⟩
  .grind
  rcases G with⟨rfl,_⟩|⟨b',o',J,_,I⟩
  .grind
  simp only[o5.injEq,Addr.mk.injEq,and_true]at J
  obtain⟨rfl,rfl⟩:=J
  have c1:=h5 j _ (l0 Y)
  have W:=I j _ (l0 B)
  unfold Cell at c1 W
  grind
 grind
theorem kp.rd(h:∀w',kp F w w'->DL w' v xs)(I:dP (λ_=>True) w v ts)(hn:ts.length=xs.length):∀w',kp F w w'->dP (λ_=>True) w' v ts:=by
 intro w' hw
 have Kd:=I
 obtain⟨a,cap,rfl,hc,h3⟩:=I
 rcases h3 with⟨h3,h4⟩|⟨b,o,rfl,h4,h5⟩
 .grind[dP]
 cases ts with
 | nil=>exact⟨_,cap,rfl,hc,.inr ⟨b,o,rfl,λh=>absurd rfl h,λj c E=>by simp[nj]at E⟩⟩
 | cons t ts=>
  by_cases Y:F b
  .exact⟨_,cap,rfl,hc,.inr ⟨b,o,rfl,λ_=>trivial,λj c E=>(h5 j c E).of_eq (hw b Y)⟩⟩
  .exfalso
   have h6:DL (ChangeMaps.setBlock w b (.map #[] 0)) (.slice (some ⟨b,o,none⟩) (t::ts).length cap) xs:=h _ λW V=>by
    simp only[ChangeMaps.setBlock];grind
   obtain⟨us,⟨a',Kf,M,_,O⟩,hul,_⟩:=h6
   simp only[yR.injEq]at M
   obtain⟨rfl,J,rfl⟩:=M
   have Z:0<(flat us).length:=by rw[dO,<- J];exact ade et (X1 (α:=σ))
   rcases O with⟨rfl,_⟩|⟨W,o',G,_,U⟩
   .simp at J
   .simp only[o5.injEq,Addr.mk.injEq,and_true]at G
    obtain⟨rfl,rfl⟩:=G
    have B:=U 0 _ (l0 Z)
    have hb:=(h5 0 _ (l0 (by rw[dO];exact ade et (X1 (α:=σ))))).lt
    unfold Cell World.cell? at B
    dsimp only at B
    rw[jZ _ hb]at B
    simp at B
theorem kp.fix(B:∀x y:σ,jl x=jl y->x=y)(h:∀w',kp F w w'->DL w' v xs):∃ts:List σ,ts.length=xs.length/\∀w',kp F w w'->dP (λ_=>True) w' v ts/\jx ts xs w':=by
 obtain⟨ts,J,G⟩:=(h w (kp.refl F w)).open
 refine⟨ts,G.1,λw' I=>?_⟩
 have h1:=kp.rd h J G.1 w' I
 obtain⟨us,E,M⟩:=(h w' I).open
 rw[dP.func B h1 E]at *
 grind
end
section
variable {P:Program}{T:Nat}{cx cy:Bool}{a b:Int}{K:Value->Prop}
theorem adR(h:0<=a-b/\a-b<=255)(k:K (.int .u8 (a-b))):eK P (ku .sub T cx cy (.int .u8 a) (.int .u8 b)) K:=
 ⟨_,(show pr P (ku .sub T cx cy (.int .u8 a) (.int .u8 b))=some (.int .u8 (a-b))from by
  show some (n5 .u8 (IntKind.u8.wrap (a-b)))=_
  have:IntKind.u8.wrap (a-b)=a-b:=by
   unfold IntKind.wrap;simp[IntKind.bits,IntKind.signed];omega
  rw[this]),k⟩
theorem YT{src B:TypeId}(h1:P.underlying src=some (.int .u8))(h2:P.underlying B=some (.int .i64))(h:0<=a/\a<=255)(k:K (iE a)):eK P (convert src B (.int .u8 a)) K:=by
 refine⟨_,?_,k⟩
 unfold convert
 simp only[cH,cJ h1,cJ h2,nY]
 show some (n5 .i64 (IntKind.i64.wrap a))=_
 rw[IntWalk.i64_in _ cU]
end
end Go.Fw
namespace Go.Proofs.YtdncbeepkacgbaaGreatDoor
open Go.Fw
def qU(c:gz):fN:=⟨c,0,o6 c.aS.toNat 0,o6 c.counts.toNat 0,0,0,0,[]⟩
def vY(N:Nat)(cs:List gz)(ts:List fN):Prop:=ts.length=cs.length/\∀(j:Nat) (c:gz) (t:fN),cs[j]?=some c->ts[j]?=some t->tm N (qU c)=some t
def DI{c:gz}(h:Cb c):G8 (qU c):=⟨h,by have:=h.rb;simp[qU];omega,by have:=h.cb;simp[qU];omega,by simp[qU],by simp[qU]⟩
def avH(K:iD)(B:List dI)(cs:List gz):Prop:=B.length=cs.length/\∀(j:Nat) (cv:dI) (c:gz),B[j]?=some cv->cs[j]?=some c->∃E:SV,cv=⟨c.aS,c.counts,E⟩/\Jd K (jj E) c.l
def Ud(x y:dI)(h:jl x=jl y):x=y:=by
 obtain⟨a,b,⟨c,d,e⟩⟩:=x;obtain⟨G,J,⟨E,B,I⟩⟩:=y;simp[jl]at h;simp[h]
def Rn(x y:bK)(h:jl x=jl y):x=y:=by
 obtain⟨a,b,c,⟨d,e,f⟩,⟨g,i,j⟩,k⟩:=x;obtain⟨E,J,V,⟨B,I,W⟩,⟨O,M,G⟩,U⟩:=y;simp[jl]at h;simp[h]
def Ro{F:Nat->Prop}{B:World}{E:Value}{l:List aU}(h:∀w',kp F B w'->DL w' E l):Jd (kp F B) E l:=by
 obtain⟨ts,_,h2⟩:=kp.fix Rn h;exact⟨ts,h2⟩
def m6(u:ki)(room:Int):jU:=⟨u,room,Kw u.lines u.stays u.dD,[],[],0,0,0⟩
def mO(m:jU)(ts:List fN):jU:={m with locks:=o6 m.u.locks.toNat (-1),l:=ts}
def adS{w w0:World}{A:Nat->Prop}{L:List HP}{p q:Nat}{u:ki}{room:Int}{sh:eO}{ov fv:SV}
  (hs:St w0 A (bU p (nJ ⟨sh.lines,sh.dD,sh.threads,sh.recover.l,sh.cB,q,jj ov,jj fv,.slice none 0 0,.slice none 0 0,[]⟩ (m6 u room)) ::
   fE q (jj ov) (jj fv) (Kw u.lines u.stays u.dD)::bG (jj ov) (u.lines.take u.stays.toNat)::bG (jj fv) u.dD::ep (λw=>n4 w sh u)::L) w) :
  ∃(K:iD) (I:List dI),St w0 A (fZ K p (m6 u room)::ep K::L) w/\(∀w,K w->dP (λ_=>True) w (jj sh.threads) I)/\avH K I u.threads:=by
 have h1:=hs.p2.freeze
 have h2:=h1.p3.freeze.p1.fu
 have h3:=h2.p3.p1.fu
 obtain⟨F,h4,h5⟩:=h3.Rl
 have B:∀w',kp F w w'->n4 w' sh u:=λw' h=>by have:=h5 w' h;first|exact this.1|exact this.2|exact this.1.1|exact this.2.2
 have V:∀w',kp F w w'->dP (λ_=>True) w' (jj ov) (u.lines.take u.stays.toNat):=λw' h=>by have:=h5 w' h;first|exact this.1.1|exact this.1.2|exact this.2.1|exact this.2.2
 have U:∀w',kp F w w'->dP (λ_=>True) w' (jj fv) u.dD:=λw' h=>by have:=h5 w' h;first|exact this.1.1|exact this.1.2|exact this.2.1|exact this.2.2
 have ZZ:∀w',kp F w w'->DL w' (jj sh.threads) u.threads:=λw' h=>by obtain⟨_,_,_,_,_,e,J,O,M,E,G⟩:=B w' h;rw[e];exact M
 obtain⟨I,F9,W⟩:=kp.fix Ud ZZ
 refine⟨kp F w,I,?_,λw' h=>(W w' h).1,F9,λj cv c h1 h2=>?_⟩
 .have h6:St w0 A (gH (uP (kp F w) room) [] []::_) w:=h4.new (Ext.refl w) (F:=bE) (λ_ h=>h) λ_ h=>h.elim
  have Z:=((h6.eU (α:=Ptr)).eU (α:=Int))
  refine fZ.shut (a:=⟨sh.lines,sh.dD,sh.threads,sh.recover.l,sh.cB,q,jj ov,jj fv,.slice none 0 0,.slice none 0 0,[]⟩) (m:=m6 u room) ⟨λw' h=>?_,λw' h=>?_,Ro λw' h=>?_,λw' h=>⟨V w' h,U w' h⟩⟩ Z.p5.p5
  .obtain⟨_,_,_,_,_,e,J,O,M,E,G⟩:=B w' h;rw[e];exact DL.flat J
  .obtain⟨_,_,_,_,_,e,J,O,M,E,G⟩:=B w' h;rw[e];exact G
  obtain⟨_,_,_,_,_,e,J,O,M,E,G⟩:=B w' h;rw[e]
  obtain⟨g,e2,q6⟩:=E;rw[e2];exact q6
 have Y:∀w',kp F w w'->n4 w' cv c:=λw' h=>(W w' h).2.2 j cv c h1 h2
 obtain⟨gl,e,_⟩:=Y w (kp.refl F w)
 subst e
 exact⟨gl,rfl,Ro λw' h=>by obtain⟨gl',e,h6⟩:=Y w' h;cases e;exact h6⟩
structure adT(N:Nat)(u:ki)(kC:List fN):Prop where
 b:vY N u.threads kC
 co:∀c∈u.threads,Cb c
 len:u.lines.length=u.dD.length
 l20:u.lines.length<=20
 st:0<=u.stays/\u.stays<=u.lines.length
 ln:∀(k:Nat) (n:Int),(k:Int)<u.stays->u.lines[k]?=some n->(n=kY u.lines k\/(0<k/\n=kY u.lines k-1))/\-10<=n/\n<=100
 lk:0<=u.locks/\u.locks<=1000
def C64(K:iD)(p:Nat)(m:jU)(N:Nat)(J:List gz)(kC:List fN)(lv:Value)(U:List dI)(F:Nat->Prop)(w:World)(hF:(fZ K p m).p w F)(hK:∀w',gZ F w w'->K w')(hrm:1<=m.room/\m.room<=16)(J9:0<=m.u.locks/\m.u.locks<=1000)(hl:∀w',gZ F w w'->dP (λ_=>True) w' lv U)(Y:avH K U J)(aCf:∀c∈J,Cb c)(hb:vY N J kC)(hn:J.length<=1000):CR 64 [(.pointer (some ⟨p,0,none⟩)),lv] w (λv w'=>v=.tuple #[]/\ng F (fZ K p (mO m kC)) w w'):=by
 have B:=St.begin hF;obtain⟨a,W,B⟩:=fZ.open B;have oK:=B.p4.gh;have hcvl:=Y.1;refine pG Tryz.func64 (pl:=P64) ?_;refine aD (aA tI (aO B CJ (ei rfl) (rfl) λ_ B=>aD (aA tH (aO B eD (ei rfl) (rfl) λ_ B=>aD (aA wq (aA GW (aB bL B.hb rfl ?_)))))));have B:=(((B.p3.drop.p3.drop.p2.drop.eU (α:=Int)).p2).p1).p2;refine⟨λI x w'=>∃(k:Nat) (Mv:Value),x=iE (k:Int)/\I=m.u.locks.toNat-k/\k<=m.u.locks.toNat/\St w F [bU p (nJ {a with lk:=Mv,ll:=.slice none 0 0} m),bG Mv (o6 k (-1:Int)),fE a.q a.ov a.fv m.mem] w',⟨_,0,_,rfl,rfl,ob _,B⟩,?_⟩
 rintro I _ _ ⟨k,Mv,rfl,rfl,ZU,B⟩ _;refine aV (aC (λjX=>?_) λjX=>?_)
 .refine aD (aA tH (aB eD B.hb rfl (bV ([-1]:List Int) B dZ rfl rfl (ei rfl) λabm _ B=>?_)));have anW:=B.fc;exact cK B.p2 dZ anW (by rw[tr,mv];omega) er (λakw _ B=>have B:=B.p1.drop;aD (aA tH (aO B.p1 eD (ei rfl) B.fc.one λ_ B=>aR cU (have B:=B.p2.p2.p2;⟨_,cU,k+1,akw,rfl,rfl,cU,by rw[List.replicate_succ'];exact B⟩))))
 refine aK ED (hl _ B.aG) ?_;have B:=B.p1;rw[show k=m.u.locks.toNat from cU]at B;have B:=((((((B.tQ (H:=uP K m.room)).eU (α:=Ptr)).p4).p3).p3).p3).p4;refine⟨λI x w'=>∃(j:Nat) (G:Value) (ps:List Ptr),x=iE (j:Int)/\I=U.length-j/\j<=U.length/\St w F [bU p (nJ {a with lk:=Mv,ll:=G} m),bG G ps,gH (uP K m.room) ps (kC.take j),bG Mv (o6 m.u.locks.toNat (-1:Int)),fE a.q a.ov a.fv m.mem] w',⟨_,0,_,_,rfl,rfl,ob _,B⟩,?_⟩;rintro I _ _ ⟨j,G,ps,rfl,rfl,hj1,B⟩ _;refine aV (aC (λn7=>?_) λn7=>?_)
 .refine⟨_,?_,λ_ h=>h⟩;obtain⟨ak9,I5⟩:=gx U (i:=(j:Int).toNat) cU;refine aW ED (hl _ B.aG) cU I5 (λ_ Ds=>?_);obtain⟨c,hc⟩:∃c,J[j]?=some c:=⟨_,l0 (by have:=Y.1;omega)⟩;obtain⟨V,O⟩:∃t,kC[j]?=some t:=⟨_,l0 (by have:=Y.1;have:=hb.1;omega)⟩;have hg:=hb.2 j c V hc O;obtain⟨gl,zd,M⟩:=Y.2 j _ _ I5 hc;subst zd;have T3:=aCf c (ml hc);have hrb:=T3.rb;have hcb:=T3.cb;refine aE si Ds (aJ B MM λahy _ B=>have B:=B.enc (cs':=jl (⟨0,0,bO⟩:dI)) rfl;aH (x:=(⟨c.aS,c.counts,gl⟩:dI)) B si rfl rfl λ_ B=>aD (aA aaU (aB bL B.p1.hb rfl (eC agi (C50 m.room _) ?_))))
  rintro v43 _ hh;obtain⟨_,_,b52,rfl,cA⟩:=hh.resolve_left (λ_=>cU);have B:=B.made cA;refine aN rfl (aN rfl ⟨λt8 w'=>∃E,t8=.pointer (some ⟨E,0,none⟩)/\St w F [fb K E m.room (qU c),bU ahy (jl (⟨c.aS,c.counts,gl⟩:dI)),bU p (nJ {a with lk:=Mv,ll:=G} m),bG G ps,gH (uP K m.room) ps (kC.take j),bG Mv (o6 m.u.locks.toNat (-1:Int)),fE a.q a.ov a.fv m.mem] w',have B:=B.drew;aE si B.p1.At (aA AE (aB (v:=iE c.aS) bL B.p1.hb rfl (aA GV (aB (v:=iE c.counts) bL B.p1.hb rfl ⟨?_,⟨?_,?_⟩⟩)))),?_⟩)
  .refine tA (0:Int) B dZ qA cU cU er (λalf _ B=>?_);refine⟨fJ si B.p2.At,?_⟩;refine⟨aF bL (B.p2.hb.cell rfl),?_⟩;refine tA (0:Int) B dZ qA cU cU er (λZ _ B=>?_);refine⟨fJ si B.p3.At,?_⟩;refine⟨aF bL (B.p3.hb.cell rfl),?_⟩;obtain⟨aCh,rfl⟩:=B.p1.fK;obtain⟨Ue,rfl⟩:=B.fK;exact pop (zB _ _ _ _ _ _ _ _ _ _ _ _) (kL B λ_ _ B=>have B:=B.p9.p9.p9.p9.p9.p9.p7.p8.p9.p9;⟨_,rfl,fb.shut (t:=qU c) M B⟩)
  .refine tA (0:Int) B dZ qA cU cU er (λayz _ B=>?_);refine⟨fJ si B.p2.At,?_⟩;refine⟨aF bL (B.p2.hb.cell rfl),?_⟩;refine tA (0:Int) B dZ qA cU cU er (λayA _ B=>?_);refine⟨fJ si B.p3.At,?_⟩;refine⟨aF bL (B.p3.hb.cell rfl),?_⟩;obtain⟨avJ,rfl⟩:=B.fK;obtain⟨avK,rfl⟩:=B.p1.fK;exact pop (zB _ _ _ _ _ _ _ _ _ _ _ _) (kL B λ_ _ B=>have B:=B.p9.p9.p9.p9.p9.p9.p8.p8.p9.p9;⟨_,rfl,fb.shut (t:=qU c) M B⟩)
  .trivial
  rintro _ _ ⟨E,rfl,B⟩ _;refine aT ajE B (H':=λ_=>fb K E m.room V) (Φ:=λ_ _=>True) (λF2 ed dQ=>?_) ?_
  .exact(C142 K E m.room (qU c) V N F2 _ ed (λw' hc=>hK w' (dQ w' hc).aG) (DI T3) hg).mono λ_ _ r=>r.mono λ_ _ h=>⟨trivial,h.2⟩
  rintro _ _ _ B;refine aD (aA tI ?_);have mM:=B.p4.gh;refine aB CJ B.p2.hb rfl (bV ([(⟨E⟩:Ptr)]) B FM rfl rfl (ei rfl) λavL _ B=>?_);have anX:=B.fc;refine cK B.p4 FM anX (by rw[n0]at mM;simp;omega) er (λals _ B=>have B:=B.p1.drop;aD (aA tI (aO B.p3 CJ (ei rfl) B.fc.one λ_ B=>?_)));intro _;exact aR cU (have B:=(((((St.CX (H:=uP K m.room) (p:=⟨E⟩) (x:=V) B.p2.p4).p3).drop).p4).p4).p2;have B:=B.p4.p4;⟨_,cU,j+1,als,ps++[⟨E⟩],rfl,rfl,cU,by rw[<- gI (k:=j) O];exact B⟩)
 have B:=B.p2.p2.p3.p4.p4;rw[mH (by have:=hb.1;omega)]at B;exact⟨rfl,(fZ.shut (m:=mO m kC) (a:={a with lk:=Mv,ll:=G,ps:=ps}) ⟨W.ln,W.cl,W.rc,W.mem⟩ B).mut⟩
def jg(m:jU)(q:cC):Option (List Int):=if q.kind=3/\q.t=0/\q.i=0/\m.fault=0 then iG m.mem q.cut else none
def Ag(m:jU)(lx:List Int):jU:={m with mem:=nH m.mem lx,bX:=m.bX+1}
def Jo(N:Nat)(m:jU)(q:cC):Option (jU×bZ×Int):=match jg m q with
 | some lx=>(tm N (qU m.u.recover)).map λt=>(mO (Ag m lx) [t],⟨15,0,0,sJ q.cut q.cut.length,0⟩,0)
 | none=>if (gV m).any (gY q)=true then
   (if q.kind=2 then(m.l[q.t.toNat]?).map λt=>(nK m t q,mI q.t (cO t.buf q.i),0)else(nL N m q.t).map λr=>(r.1,r.2,0))
  else some (m,⟨0,0,0,0,0⟩,13)
section
variable {N:Nat}{m m2:jU}{q:cC}{ev:bZ}{e:Int}{lx:List Int}
theorem ti(h:Jo N m q=some (m2,ev,e))(hc:jg m q=some lx):∃t,tm N (qU m.u.recover)=some t/\m2=mO (Ag m lx) [t]/\ev=⟨15,0,0,sJ q.cut q.cut.length,0⟩/\e=0:=by
 unfold Jo at h;rw[hc]at h;dsimp only at h
 cases hg:tm N (qU m.u.recover)with
 | none=>grind
 | some t=>grind
theorem re(h:Jo N m q=some (m2,ev,e))(hc:jg m q=none)(B:¬ (gV m).any (gY q)=true):m2=m/\ev=⟨0,0,0,0,0⟩/\e=13:=by
 unfold Jo at h;grind
theorem rf{t:fN}(h:Jo N m q=some (m2,ev,e))(hc:jg m q=none)(B:(gV m).any (gY q)=true)(E:q.kind=2)(ht:m.l[q.t.toNat]?=some t):m2=nK m t q/\ev=mI q.t (cO t.buf q.i)/\e=0:=by
 unfold Jo at h;grind
theorem oL(h:Jo N m q=some (m2,ev,e))(hc:jg m q=none)(B:(gV m).any (gY q)=true)(E:¬ q.kind=2):nL N m q.t=some (m2,ev)/\e=0:=by
 unfold Jo at h;rw[hc]at h;dsimp only at h;rw[ez B,ew E]at h
 cases hs:nL N m q.t with
 | none=>rw[hs]at h;cases h
 | some r=>rw[hs]at h;cases h;exact⟨rfl,rfl⟩
theorem Gg{k:Nat}{x:cC}(h:x∈lz m k):∃i t,i<k/\m.l[i]?=some t/\x∈vW m i t:=by
 unfold lz at h
 grind
theorem Rq{i:Nat}{t:fN}{x:cC}(h:x∈vW m i t):x.t=i:=by
 unfold vW at h
 grind
theorem ui(h:(gV m).any (gY q)=true):0<=q.t/\∃t,m.l[q.t.toNat]?=some t:=by
 rw[List.any_eq_true]at h
 obtain⟨x,B,E⟩:=h
 unfold gV at B
 split at B
 .cases B
 obtain⟨i,t,_,ht,G⟩:=Gg B
 have h1:=Rq G
 unfold gY at E
 simp only[Bool.and_eq_true,decide_eq_true_eq]at E
 have:q.t=(i:Int):=cU
 rw[this];exact⟨cU,t,ht⟩
theorem uj(h:xm m):(gV m).length<=1001000:=by
 unfold gV;split
 .simp
 exact xL (Ae h _) (FH 1001 h.tl)
end
def adU(m:Mem)(cut:List Int)(v:Value)(m2:Mem):Prop:=(iG m cut=none/\m2=m/\v=iE 1)\/∃lx,iG m cut=some lx/\m2=nH m lx/\v=iE 0
def YU{m:Mem}{cut:List Int}{v:Value}{p:Nat}{ov fv:Value}{F:Nat->Prop}{w w':World}
  (h:(iG m cut=none/\v=iE 1/\ng F (fE p ov fv m) w w')\/∃lx,iG m cut=some lx/\v=iE 0/\ng F (fE p ov fv (nH m lx)) w w') :
  True/\ng F (ph λm2=>fact (adU m cut v m2) (fE p ov fv m2)) w w':=by
 refine⟨trivial,?_⟩
 rcases h with⟨h1,h2,B,h3,h4,h5⟩|⟨lx,h1,h2,B,h3,h4,h5⟩
 .exact⟨B,⟨m,.inl ⟨h1,rfl,h2⟩,h3⟩,h4,h5⟩
 exact⟨B,⟨nH m lx,.inr ⟨lx,h1,rfl,h2⟩,h3⟩,h4,h5⟩
def C20(u:ki)(uv:eO)(room:Int)(N:Nat)(kC:List fN)(w:World)(hu:n4 w uv u)(hz:UZ u)(hn:qR u=true->adT N u kC):CR 20 [jj uv,iE room] w (λv w'=>(qR u=false/\v=.tuple #[.pointer none,iE 8]/\Ext w w')\/(qR u=true/\(room<1\/16<room)/\v=.tuple #[.pointer none,iE 1]/\Ext w w')\/(qR u=true/\1<=room/\room<=16/\∃K p,v=.tuple #[.pointer (some ⟨p,0,none⟩),iE 0]/\mf (sep (fZ K p (mO (m6 u room) kC)) (ep K)) w w')):=by
 obtain⟨jA,iL,fz,vl,fM,rfl,jB,ko,j3,kZ,mh⟩:=hu;obtain⟨J,rfl,jo⟩:=kZ;have B:=St.start w;refine fD Tryz.func20 ?_;refine cP B (λb_u2 _ B=>aE zj B.At (aY azj B (C62 u _ _ ⟨jA,iL,fz,(⟨u.recover.aS,u.recover.counts,J⟩:dI),fM,rfl,(jB.ext B.aG),(ko.ext B.aG),(j3.ext B.aG),⟨J,rfl,(jo.ext B.aG)⟩,(mh.ext B.aG)⟩ hz) λ_ he B=>bJ (aX (λG=>.inl ⟨by simpa using G,rfl,B.drop.aG⟩) λG=>?_)))
 have E:=hn (by simpa using G);refine eC agi (C50 room _) ?_;rintro V _ anY
 rcases anY with⟨hrb,rfl,he⟩|⟨Kc,GS,b52,rfl,I⟩
 .have B:=B.ext he;exact aN rfl (aN rfl (cN (u5 er (.inr (.inl ⟨by simpa using G,hrb,rfl,B.drop.aG⟩)))))
 have B:=B.made I;refine aN rfl (aN rfl (cN (gu er (aE zj B.p1.At (eC azk (C63 u _ _ ⟨jA,iL,fz,(⟨u.recover.aS,u.recover.counts,J⟩:dI),fM,rfl,(jB.ext B.aG),(ko.ext B.aG),(j3.ext B.aG),⟨J,rfl,(jo.ext B.aG)⟩,(mh.ext B.aG)⟩ hz) ?_)))));rintro _ _ ⟨aCi,rfl,I⟩;have B:=B.made I;refine pop (S2 _ _ _ _ _ _ _ _ _ _ _ _ _ _ _ _ _ _ _ _) (kL B λFV _ B=>aA nV (aB eD B.p3.hb rfl ?_));have Z:=DL.flat jB;refine aA qX (aB (v:=iE u.stays) bL B.p3.hb rfl (aA CD (aB eD B.p3.hb rfl ?_)))
 have M:=DL.flat ko;refine eC aqM (C54 u.lines u.dD u.stays _ _ _ (Z.ext B.aG) (M.ext B.aG) E.len E.l20 E.st E.ln) ?_;rintro v33 _ ⟨q,ov,fv,rfl,I⟩;have B:=((B.made I).split).p1.split;refine aN rfl (aN rfl (aD (aA mz (aO B.p3 mT (ei rfl) (rfl) λ_ B=>aD (aA wq (aA uX (aB Ki B.hb rfl ?_)))))));obtain⟨s1,s2,s3,s4,s5,W,q1,q2,q3,q4,q5⟩:=B.p4.ep;obtain⟨g4,U,_⟩:=q4;subst U;subst W;have B:=B.p4.p2.p4.p4.p4;obtain⟨K,Uc,B,Y,O⟩:=adS (room:=room) (sh:=(⟨s1,u.stays,s2,u.locks,s3,⟨u.recover.aS,u.recover.counts,g4⟩,s5⟩:eO)) B
 refine aT aqN B (H':=λ_=>fZ K FV (mO (m6 u room) kC)) (Φ:=λ_ _=>True) (λF2 ed dQ=>?_) ?_
 .exact(C64 K FV (m6 u room) N u.threads kC _ Uc F2 _ ed (λw' hc=>(dQ w' hc).ep) ⟨Kc,GS⟩ E.lk (λw' hc=>Y w' (dQ w' hc).ep) O E.co E.b hz.threads).mono λ_ _ r=>r.mono λ_ _ h=>⟨trivial,h.2⟩
 rintro _ _ _ B;have B:=B.p2.drop.p2.drop.p1.p1;exact .inr (.inr ⟨by simpa using G,Kc,GS,K,FV,rfl,(St.join B).fresh⟩)
def C38(K:iD)(p:Nat)(m:jU)(N:Nat)(q:cC)(E:SV)(m2:jU)(ev:bZ)(e:Int)(F:Nat->Prop)(w:World)(hF:(fZ K p m).p w F)(M:∀w',gZ F w w'->K w')(O:xm m)(qy:MB m.mem 1000000)(hcb:0<=m.bX/\m.bX<=1000000)(aCm:Cb m.u.recover)(J9:0<=m.u.locks/\m.u.locks<=1000)(vZ:∀w',gZ F w w'->dP (λ_=>True) w' (jj E) q.cut)(hql:q.cut.length<=1000)(hd:Jo N m q=some (m2,ev,e)):CR 38 [(.pointer (some ⟨p,0,none⟩)),jj (⟨q.kind,q.t,q.i,E⟩:cY)] w (λv w'=>v=.tuple #[jj ev,iE e]/\ng F (fZ K p m2) w w'):=by
 have B:=St.begin hF;obtain⟨a,hu,B⟩:=fZ.open B;have oK:=B.p4.gh;refine amd _ _ _ _ ?_;unfold S38;refine cP (x:=(⟨q.kind,q.t,q.i,E⟩:cY)) B (λJn w1 B=>aJ B jQ λQ6 w2 B=>?_);refine⟨_,?_,λ_ _ h=>h⟩;refine aA mS (have B:=B.drew;aB (v:=iE q.kind) bL B.p1.hb rfl (aI (aC (λlR=>aA im (aB (v:=iE q.t) bL B.p1.hb rfl (aI (aC (λoG=>aA qY (aB (v:=iE q.i) bL B.p1.hb rfl (aI (aC (λkz=>aD (aA pM (aB bL B.p2.hb rfl (aI (aC (λji=>?_) λji=>?_))))) λkz=>?_)))) λoG=>?_)))) λlR=>?_)))
 .refine aD (aA mz (aB mT B.p2.hb rfl (aA pK (aB (v:=jj (E:SV)) eD B.p1.hb rfl (aT aqR B.p3 (H':=λv=>ph λm2=>fact (adU m.mem q.cut v m2) (fE a.q a.ov a.fv m2)) (Φ:=λ_ _=>True) (λJ I G=>?_) ?_)))))
  .exact(C81 a.q a.ov a.fv m.mem J q.cut _ _ I (λw' hc=>hu.mem _ (M w' (G w' hc).aG)) O.mem qy (λw' hc=>vZ w' (G w' hc).aG) hql).mono λ_ _ r=>r.mono λ_ _ h=>YU h
  rintro v34 _ _ yD;obtain⟨m2c,yU⟩:=yD.dU
  clear yD
  obtain⟨hcf,Co⟩:=yU.lq
  clear yU
  rcases hcf with⟨him,rfl,rfl⟩|⟨lx,him,rfl,rfl⟩
  .have B:=Co;have U:jg m q=none:=by unfold jg;rw[ez ⟨lR,oG,kz,ji⟩];exact him
   refine aI ?_;intro sQ;refine gu er (have B:=fZ.shut (m:=m) hu B.p6.p6.p6.p3.p6;cW SU B (C24 K p m _ B.has (M _ B.aG) (λ_ e=>M _ (B.aG.then e)) O) λx58 w10 cA B=>?_);have Lv:=B.p3.At;have V:lr hZ _ (.func (.func 88) [].toArray [.pointer (some ⟨Jn,0,none⟩)].toArray) (λ_:cC=>True) (gY q):=⟨88,[],_,rfl,aav,λsx y w1 e1 Kx _=>C88 y q sx Jn (⟨q.kind,q.t,q.i,E⟩:cY) w1 Kx (Lv.ext e1) ⟨E,rfl,DL.fP (vZ _ (B.aG.then e1))⟩⟩;refine aY Ya B (C84 _ _ _ (λ_=>True) _ _ B.dl V (λ_ _=>trivial) (by have:=uj O;omega)) (λw11 he B=>bJ (aX (λW=>?_) λW=>?_))
   .refine pop EH (aH (x:=(⟨0,0,0,0,0⟩:bZ)) B.p2 ey rfl rfl λw12 B=>aE ey B.At ?_);have B:=B.drop.drop.p1.drop;obtain⟨rfl,rfl,rfl⟩:=re hd U (by simpa using W);exact⟨rfl,B.mut⟩
   have Y:(gV m).any (gY q)=true:=by simpa using W
   obtain⟨h0,t,ht⟩:=ui Y;refine aA mS (aB (v:=iE q.kind) bL B.p3.hb rfl (aI (aC (λZ=>?_) λZ=>?_)))
   .refine aE oc B.p3.At ?_;obtain⟨rfl,rfl,rfl⟩:=rf hd U Y Z ht;have B:=B.p1;refine aT aaw B (H':=λ_=>fZ K p (nK m t q)) (Φ:=λv _=>v=jj (mI q.t (cO t.buf q.i))) (λJ I G=>?_) ?_
    .exact C89 K p m q (⟨q.kind,q.t,q.i,E⟩:cY) t J _ I (λw' hc=>M w' (G w' hc).aG) O qy ⟨E,rfl,DL.fP (vZ _ B.aG)⟩ h0 ht
    rintro _ Z3 rfl B;exact aH (x:=(mI q.t (cO t.buf q.i))) B.p2 ey rfl rfl (λ_ B=>aE ey B.At (have B:=B.drop.p1.drop.p1.drop;⟨rfl,B.mut⟩))
   refine aA im (aB (v:=iE q.t) bL B.p3.hb rfl ?_);obtain⟨vn,rfl⟩:=oL hd U Y Z;have B:=B.p1;refine aT aax B (H':=λ_=>fZ K p m2) (Φ:=λv _=>v=jj ev) (λJ I G=>?_) ?_
   .exact C90 K p m N q.t t m2 ev J _ I (λw' hc=>M w' (G w' hc).aG) O qy h0 ht vn
   rintro _ w15 rfl B;exact aH (x:=ev) B.p2 ey rfl rfl (λ_ B=>aE ey B.At (have B:=B.drop.p1.drop.p1.drop;⟨rfl,B.mut⟩))
  have B:=Co;have U:jg m q=some lx:=by unfold jg;rw[ez ⟨lR,oG,kz,ji⟩];exact him
  refine aI ?_;intro sQ;refine u5 er (aD (aA HJ (aB bL B.p3.hb rfl (aR cU (aD (aA HJ (aO B.p3 bL (ei rfl) (rfl) λ_ B=>aD (aA wq (aA CE (oO (⟨m.u.recover.aS,m.u.recover.counts,a.rcl⟩:dI) si B.hb rfl (bV ([(⟨m.u.recover.aS,m.u.recover.counts,a.rcl⟩:dI)]) B ED rfl rfl (ei rfl) λalf _ B=>?_)))))))))));have B:=fZ.shut (m:=(Ag m lx)) ⟨hu.ln,hu.cl,hu.rc,hu.mem⟩ B.p7.p7.p7.p5.p5;obtain⟨t2,hg,rfl,rfl,rfl⟩:=ti hd U;have B:=B.p1.p1;refine aT aqN B (H':=λ_=>fZ K p (mO (Ag m lx) [t2])) (Φ:=λ_ _=>True) (λJ I G=>?_) ?_
  .exact(C64 K p (Ag m lx) N [m.u.recover] [t2] _ [(⟨m.u.recover.aS,m.u.recover.counts,a.rcl⟩:dI)] J _ I (λw' hc=>M w' (G w' hc).aG) O.rm J9 (λw' hc=>(G w' hc).fc) ⟨rfl,λj _ _ h1 h2=>by cases j with|zero=>(simp at h1 h2;subst h1 h2;exact⟨a.rcl,rfl,hu.rc⟩)|succ j=>simp at h1⟩ (by simpa using aCm) ⟨rfl,λj _ _ h1 h2=>by cases j with|zero=>(simp at h1 h2;subst h1 h2;exact hg)|succ j=>simp at h1⟩ et).mono λ_ _ r=>r.mono λ_ _ h=>⟨trivial,h.2⟩
  rintro _ _ _ B;exact aA pK (aB (v:=jj (E:SV)) eD B.p3.hb rfl (aY azC B (C87 _ q.cut _ (vZ _ B.aG) cU) λ_ _ B=>pop (te _ _) (aH (x:=(⟨15,0,0,(sJ q.cut q.cut.length),0⟩:bZ)) B.p2 ey rfl rfl λ_ B=>aE ey B.At (have B:=B.drop.p1.drop.p1.drop;⟨rfl,B.mut⟩))))
 .have U:jg m q=none:=by unfold jg;rw[ew (by exactλh=>ji h.2.2.2)]
  intro sQ;refine eX (have B:=fZ.shut (m:=m) hu B.p6.p6.p6.p6.p6;cW SU B (C24 K p m _ B.has (M _ B.aG) (λ_ e=>M _ (B.aG.then e)) O) λx58 w10 cA B=>?_);have Lv:=B.p3.At;have V:lr hZ _ (.func (.func 88) [].toArray [.pointer (some ⟨Jn,0,none⟩)].toArray) (λ_:cC=>True) (gY q):=⟨88,[],_,rfl,aav,λsx y w1 e1 Kx _=>C88 y q sx Jn (⟨q.kind,q.t,q.i,E⟩:cY) w1 Kx (Lv.ext e1) ⟨E,rfl,DL.fP (vZ _ (B.aG.then e1))⟩⟩;refine aY Ya B (C84 _ _ _ (λ_=>True) _ _ B.dl V (λ_ _=>trivial) (by have:=uj O;omega)) (λw11 he B=>bJ (aX (λW=>?_) λW=>?_))
  .refine pop EH (aH (x:=(⟨0,0,0,0,0⟩:bZ)) B.p2 ey rfl rfl λw12 B=>aE ey B.At ?_);have B:=B.drop.drop.p1.drop;obtain⟨rfl,rfl,rfl⟩:=re hd U (by simpa using W);exact⟨rfl,B.mut⟩
  have Y:(gV m).any (gY q)=true:=by simpa using W
  obtain⟨h0,t,ht⟩:=ui Y;refine aA mS (aB (v:=iE q.kind) bL B.p3.hb rfl (aI (aC (λZ=>?_) λZ=>?_)))
  .refine aE oc B.p3.At ?_;obtain⟨rfl,rfl,rfl⟩:=rf hd U Y Z ht;have B:=B.p1;refine aT aaw B (H':=λ_=>fZ K p (nK m t q)) (Φ:=λv _=>v=jj (mI q.t (cO t.buf q.i))) (λJ I G=>?_) ?_
   .exact C89 K p m q (⟨q.kind,q.t,q.i,E⟩:cY) t J _ I (λw' hc=>M w' (G w' hc).aG) O qy ⟨E,rfl,DL.fP (vZ _ B.aG)⟩ h0 ht
   rintro _ Z3 rfl B;exact aH (x:=(mI q.t (cO t.buf q.i))) B.p2 ey rfl rfl (λ_ B=>aE ey B.At (have B:=B.drop.p1.drop.p1.drop;⟨rfl,B.mut⟩))
  refine aA im (aB (v:=iE q.t) bL B.p3.hb rfl ?_);obtain⟨vn,rfl⟩:=oL hd U Y Z;have B:=B.p1;refine aT aax B (H':=λ_=>fZ K p m2) (Φ:=λv _=>v=jj ev) (λJ I G=>?_) ?_
  .exact C90 K p m N q.t t m2 ev J _ I (λw' hc=>M w' (G w' hc).aG) O qy h0 ht vn
  rintro _ w15 rfl B;exact aH (x:=ev) B.p2 ey rfl rfl (λ_ B=>aE ey B.At (have B:=B.drop.p1.drop.p1.drop;⟨rfl,B.mut⟩))
 .have U:jg m q=none:=by unfold jg;rw[ew (by exactλh=>kz h.2.2.1)]
  intro sQ;refine eX (have B:=fZ.shut (m:=m) hu B.p6.p6.p6.p6.p6;cW SU B (C24 K p m _ B.has (M _ B.aG) (λ_ e=>M _ (B.aG.then e)) O) λx58 w10 cA B=>?_);have Lv:=B.p3.At;have V:lr hZ _ (.func (.func 88) [].toArray [.pointer (some ⟨Jn,0,none⟩)].toArray) (λ_:cC=>True) (gY q):=⟨88,[],_,rfl,aav,λsx y w1 e1 Kx _=>C88 y q sx Jn (⟨q.kind,q.t,q.i,E⟩:cY) w1 Kx (Lv.ext e1) ⟨E,rfl,DL.fP (vZ _ (B.aG.then e1))⟩⟩;refine aY Ya B (C84 _ _ _ (λ_=>True) _ _ B.dl V (λ_ _=>trivial) (by have:=uj O;omega)) (λw11 he B=>bJ (aX (λW=>?_) λW=>?_))
  .refine pop EH (aH (x:=(⟨0,0,0,0,0⟩:bZ)) B.p2 ey rfl rfl λw12 B=>aE ey B.At ?_);have B:=B.drop.drop.p1.drop;obtain⟨rfl,rfl,rfl⟩:=re hd U (by simpa using W);exact⟨rfl,B.mut⟩
  have Y:(gV m).any (gY q)=true:=by simpa using W
  obtain⟨h0,t,ht⟩:=ui Y;refine aA mS (aB (v:=iE q.kind) bL B.p3.hb rfl (aI (aC (λZ=>?_) λZ=>?_)))
  .refine aE oc B.p3.At ?_;obtain⟨rfl,rfl,rfl⟩:=rf hd U Y Z ht;have B:=B.p1;refine aT aaw B (H':=λ_=>fZ K p (nK m t q)) (Φ:=λv _=>v=jj (mI q.t (cO t.buf q.i))) (λJ I G=>?_) ?_
   .exact C89 K p m q (⟨q.kind,q.t,q.i,E⟩:cY) t J _ I (λw' hc=>M w' (G w' hc).aG) O qy ⟨E,rfl,DL.fP (vZ _ B.aG)⟩ h0 ht
   rintro _ Z3 rfl B;exact aH (x:=(mI q.t (cO t.buf q.i))) B.p2 ey rfl rfl (λ_ B=>aE ey B.At (have B:=B.drop.p1.drop.p1.drop;⟨rfl,B.mut⟩))
  refine aA im (aB (v:=iE q.t) bL B.p3.hb rfl ?_);obtain⟨vn,rfl⟩:=oL hd U Y Z;have B:=B.p1;refine aT aax B (H':=λ_=>fZ K p m2) (Φ:=λv _=>v=jj ev) (λJ I G=>?_) ?_
  .exact C90 K p m N q.t t m2 ev J _ I (λw' hc=>M w' (G w' hc).aG) O qy h0 ht vn
  rintro _ w15 rfl B;exact aH (x:=ev) B.p2 ey rfl rfl (λ_ B=>aE ey B.At (have B:=B.drop.p1.drop.p1.drop;⟨rfl,B.mut⟩))
 .have U:jg m q=none:=by unfold jg;rw[ew (by exactλh=>oG h.2.1)]
  intro sQ;refine eX (have B:=fZ.shut (m:=m) hu B.p6.p6.p6.p6.p6;cW SU B (C24 K p m _ B.has (M _ B.aG) (λ_ e=>M _ (B.aG.then e)) O) λx58 w10 cA B=>?_);have Lv:=B.p3.At;have V:lr hZ _ (.func (.func 88) [].toArray [.pointer (some ⟨Jn,0,none⟩)].toArray) (λ_:cC=>True) (gY q):=⟨88,[],_,rfl,aav,λsx y w1 e1 Kx _=>C88 y q sx Jn (⟨q.kind,q.t,q.i,E⟩:cY) w1 Kx (Lv.ext e1) ⟨E,rfl,DL.fP (vZ _ (B.aG.then e1))⟩⟩;refine aY Ya B (C84 _ _ _ (λ_=>True) _ _ B.dl V (λ_ _=>trivial) (by have:=uj O;omega)) (λw11 he B=>bJ (aX (λW=>?_) λW=>?_))
  .refine pop EH (aH (x:=(⟨0,0,0,0,0⟩:bZ)) B.p2 ey rfl rfl λw12 B=>aE ey B.At ?_);have B:=B.drop.drop.p1.drop;obtain⟨rfl,rfl,rfl⟩:=re hd U (by simpa using W);exact⟨rfl,B.mut⟩
  have Y:(gV m).any (gY q)=true:=by simpa using W
  obtain⟨h0,t,ht⟩:=ui Y;refine aA mS (aB (v:=iE q.kind) bL B.p3.hb rfl (aI (aC (λZ=>?_) λZ=>?_)))
  .refine aE oc B.p3.At ?_;obtain⟨rfl,rfl,rfl⟩:=rf hd U Y Z ht;have B:=B.p1;refine aT aaw B (H':=λ_=>fZ K p (nK m t q)) (Φ:=λv _=>v=jj (mI q.t (cO t.buf q.i))) (λJ I G=>?_) ?_
   .exact C89 K p m q (⟨q.kind,q.t,q.i,E⟩:cY) t J _ I (λw' hc=>M w' (G w' hc).aG) O qy ⟨E,rfl,DL.fP (vZ _ B.aG)⟩ h0 ht
   rintro _ Z3 rfl B;exact aH (x:=(mI q.t (cO t.buf q.i))) B.p2 ey rfl rfl (λ_ B=>aE ey B.At (have B:=B.drop.p1.drop.p1.drop;⟨rfl,B.mut⟩))
  refine aA im (aB (v:=iE q.t) bL B.p3.hb rfl ?_);obtain⟨vn,rfl⟩:=oL hd U Y Z;have B:=B.p1;refine aT aax B (H':=λ_=>fZ K p m2) (Φ:=λv _=>v=jj ev) (λJ I G=>?_) ?_
  .exact C90 K p m N q.t t m2 ev J _ I (λw' hc=>M w' (G w' hc).aG) O qy h0 ht vn
  rintro _ w15 rfl B;exact aH (x:=ev) B.p2 ey rfl rfl (λ_ B=>aE ey B.At (have B:=B.drop.p1.drop.p1.drop;⟨rfl,B.mut⟩))
 have U:jg m q=none:=by unfold jg;rw[ew (by exactλh=>lR h.1)]
 intro sQ;refine eX (have B:=fZ.shut (m:=m) hu B.p6.p6.p6.p6.p6;cW SU B (C24 K p m _ B.has (M _ B.aG) (λ_ e=>M _ (B.aG.then e)) O) λx58 w10 cA B=>?_);have Lv:=B.p3.At;have V:lr hZ _ (.func (.func 88) [].toArray [.pointer (some ⟨Jn,0,none⟩)].toArray) (λ_:cC=>True) (gY q):=⟨88,[],_,rfl,aav,λsx y w1 e1 Kx _=>C88 y q sx Jn (⟨q.kind,q.t,q.i,E⟩:cY) w1 Kx (Lv.ext e1) ⟨E,rfl,DL.fP (vZ _ (B.aG.then e1))⟩⟩;refine aY Ya B (C84 _ _ _ (λ_=>True) _ _ B.dl V (λ_ _=>trivial) (by have:=uj O;omega)) (λw11 he B=>bJ (aX (λW=>?_) λW=>?_))
 .refine pop EH (aH (x:=(⟨0,0,0,0,0⟩:bZ)) B.p2 ey rfl rfl λw12 B=>aE ey B.At ?_);have B:=B.drop.drop.p1.drop;obtain⟨rfl,rfl,rfl⟩:=re hd U (by simpa using W);exact⟨rfl,B.mut⟩
 have Y:(gV m).any (gY q)=true:=by simpa using W
 obtain⟨h0,t,ht⟩:=ui Y;refine aA mS (aB (v:=iE q.kind) bL B.p3.hb rfl (aI (aC (λZ=>?_) λZ=>?_)))
 .refine aE oc B.p3.At ?_;obtain⟨rfl,rfl,rfl⟩:=rf hd U Y Z ht;have B:=B.p1;refine aT aaw B (H':=λ_=>fZ K p (nK m t q)) (Φ:=λv _=>v=jj (mI q.t (cO t.buf q.i))) (λJ I G=>?_) ?_
  .exact C89 K p m q (⟨q.kind,q.t,q.i,E⟩:cY) t J _ I (λw' hc=>M w' (G w' hc).aG) O qy ⟨E,rfl,DL.fP (vZ _ B.aG)⟩ h0 ht
  rintro _ Z3 rfl B;exact aH (x:=(mI q.t (cO t.buf q.i))) B.p2 ey rfl rfl (λ_ B=>aE ey B.At (have B:=B.drop.p1.drop.p1.drop;⟨rfl,B.mut⟩))
 refine aA im (aB (v:=iE q.t) bL B.p3.hb rfl ?_);obtain⟨vn,rfl⟩:=oL hd U Y Z;have B:=B.p1;refine aT aax B (H':=λ_=>fZ K p m2) (Φ:=λv _=>v=jj ev) (λJ I G=>?_) ?_
 .exact C90 K p m N q.t t m2 ev J _ I (λw' hc=>M w' (G w' hc).aG) O qy h0 ht vn
 rintro _ w15 rfl B;exact aH (x:=ev) B.p2 ey rfl rfl (λ_ B=>aE ey B.At (have B:=B.drop.p1.drop.p1.drop;⟨rfl,B.mut⟩))
abbrev PD:=List (Bk×Bool)
def lY(b:Bk)(e:Bool)(p:PD):PD:=match b with
 | .nil=>p
 | .cons x c d r=>(.cons x c d r,e)::p
def iM:PD->PD
 | (.cons _ _ _ r,_)::p=>lY r false p
 | (.nil,_)::p=>p
 | []=>[]
def sX:PD->Option (bD×Bk×Bk)
 | (.cons x a b _,_)::_=>some (x,a,b)
 | _=>none
def o0(x:bD)(a:Bk)(p:PD):PD:=if x.n=0 then iM p else lY a false ((.cons {x with n:=x.n-1} a .nil .nil,true)::iM p)
def mP:PD->PD
 | []=>[]
 | (_,e)::p=>if e=true then p else mP p
structure kG where
 names:List ByteArray
 aS:List Int
 cD:PD
 fault:Int
 buf:List bH
def eS(t:kG)(l:List bY):Int×Bool:=if l.length=0 then(0,true)else((BX t.names t.aS l).1,decide ((BX t.names t.aS l).2=0))
def v7(t:kG)(s:ByteArray)(n:Int):kG:={t with aS:=t.aS.set (bR t.names s).toNat n}
def sY(t:kG)(x:bD)(a b:Bk)(n:Int):kG×Bool:=
 if x.kind=1 then({v7 t x.eY n with cD:=iM t.cD},true)
 else if x.kind=11 then({t with cD:=lY (if n=0 then b else a) false (iM t.cD)},true)
 else if x.kind=12 then({t with cD:=o0 x a t.cD},true)
 else if x.kind=13 then({t with cD:=mP t.cD},true)
 else if x.kind=14 then(if n=0 then({t with fault:=1},false)else({t with cD:=iM t.cD},true))
 else(t,false)
def sq(t:kG):kG×Bool:=match sX t.cD with
 | none=>(t,false)
 | some (x,a,b)=>if (eS t x.e).2=true/\(eS t x.f).2=true then sY t x a b (eS t x.e).1 else({t with fault:=2},false)
def Ah:Nat->kG->Option kG
 | 0,_=>none
 | n+1,t=>if (sq t).2=true then Ah n (sq t).1 else some (sq t).1
def m7:Bk->Nat
 | .nil=>0
 | .cons x a b r=>(if x.kind=12 then x.n.toNat*(m7 a+1)else m7 a+m7 b)+m7 r+1
def iU(p:PD):Nat:=(p.map λq=>m7 q.1).sum
theorem um(q:Bk×Bool)(p:PD):iU (q::p)=m7 q.1+iU p:=by simp[iU]
def GB(φ:bD->Prop):Bk->Prop
 | .nil=>True
 | .cons x a b r=>φ x/\GB φ a/\GB φ b/\GB φ r
theorem YV{φ:bD->Prop}:∀t:Bk,GB φ t↔∀x∈t.flat,φ x:=by
 intro t
 induction t with
 | nil=>simp[GB,Bk.flat]
 | cons x a b r E G B=>
  simp only[GB,Bk.flat,E,G,B,ta,List.mem_append]
  grind
structure LN(φ:bD->Prop)(p:PD):Prop where
 ne:∀q∈p,q.1≠.nil
 st:∀q∈p,q.1.str
 al:∀q∈p,GB φ q.1
section
variable {φ:bD->Prop}{p:PD}{b:Bk}{e:Bool}
theorem LN.tail{q:Bk×Bool}(h:LN φ (q::p)):LN φ p:=⟨λq B=>h.ne q (so _ B),λq B=>h.st q (so _ B),λq B=>h.al q (so _ B)⟩
theorem LN.push(h:LN φ p)(I:b.str)(E:GB φ b):LN φ (lY b e p):=by
 cases b with
 | nil=>exact h
 | cons x c d r=>
  refine⟨?_,?_,?_⟩<;>intro q B<;>rcases ta.1 B with rfl|B
  .intro G;cases G
  .exact h.ne q B
  .exact I
  .exact h.st q B
  .exact E
  .exact h.al q B
theorem LN.pop(h:LN φ p):LN φ (iM p):=by
 match p,h with
 | [],h=>exact h
 | (.nil,_)::p,h=>exact h.tail
 | (.cons x a b r,_)::p,h=>
  have B:=h.st _ (qs ..)
  have E:=h.al _ (qs ..)
  exact h.tail.push B.2.2.2.2.2.2 E.2.2.2
theorem LN.leave:∀{p:PD},LN φ p->LN φ (mP p)
 | [],h=>h
 | (_,e)::p,h=>by
  unfold mP;split
  .exact h.tail
  .exact h.tail.leave
theorem LO{x:bD}{a b:Bk}(h:sX p=some (x,a,b)):∃r e B,p=(.cons x a b r,e)::B:=by
 match p,h with
 | (.cons y c d r,e)::B,h=>cases h;grind
theorem uo:iU (lY b e p)=m7 b+iU p:=by
 cases b with
 | nil=>simp[lY,m7]
 | cons x c d r=>exact um _ _
theorem Rr:∀p:PD,iU (mP p)<=iU p
 | []=>qQ _
 | (b,e)::p=>by
  have:=Rr p
  grind[iU,mP]
theorem YW(h:b≠.nil):1<=m7 b:=by
 cases b with
 | nil=>grind
 | cons x c d r=>unfold m7;omega
theorem AV(h:LN φ p):p.length<=iU p:=by
 induction p with
 | nil=>simp
 | cons q p B=>
  have:=YW (h.ne q (qs ..))
  have:=B h.tail
  rw[um,List.length_cons];omega
theorem yc{x:bD}{a b r:Bk}:m7 (.cons x a b r)=(if x.kind=12 then x.n.toNat*(m7 a+1)else m7 a+m7 b)+m7 r+1:=rfl
theorem Uf{x:bD}{a b r:Bk}{B:PD}(h:p=(.cons x a b r,e)::B):iU (iM p)+1<=iU p:=by
 subst h
 show iU (lY r false B)+1<=_
 rw[uo,um,yc];omega
end
structure uq(φ:bD->Prop)(t:kG):Prop where
 p:LN φ t.cD
 rl:t.aS.length=t.names.length
 nb:t.names.length<=1000
 bl:t.buf.length<=1000
 cl:iU t.cD<=10000
structure StD(cs ls ns:List ByteArray)(x:bD):Prop where
 k:1<=x.kind/\x.kind<=14
 e:x.e.length<=1000/\x.f.length<=1000
 n:x.kind=12->0<=x.n/\x.n<=1000
 el:¬ x.kind=11->x.eR<=0
 rg:x.kind=1\/x.kind=2\/x.kind=4->0<=bR ns x.eY
 cl:x.kind=2\/x.kind=3\/x.kind=4->0<=bR cs x.name
 lk:x.kind=9\/x.kind=10->0<=bR ls x.name
 nm:(∀y∈x.e,y.name.size<=1000)/\∀y∈x.f,y.name.size<=1000
abbrev Eh(cs ls:List ByteArray)(t:kG):Prop:=uq (StD cs ls t.names) t
section
variable {φ:bD->Prop}{cs ls:List ByteArray}{t t' tR:kG}{x:bD}{a b:Bk}{n:Int}{k:Nat}
theorem uq.cD{p:PD}(h:uq φ t)(B:LN φ p)(hc:iU p<=iU t.cD):uq φ {t with cD:=p}:=⟨B,h.rl,h.nb,h.bl,xL hc h.cl⟩
theorem uq.flt(h:uq φ t)(n:Int):uq φ {t with fault:=n}:=⟨h.p,h.rl,h.nb,h.bl,h.cl⟩
theorem uq.set(h:uq φ t)(s:ByteArray)(n:Int):uq φ (v7 t s n):=⟨h.p,by simp[v7,h.rl],h.nb,h.bl,h.cl⟩
theorem uq.top(h:uq φ t)(ht:sX t.cD=some (x,a,b)):φ x/\a.str/\b.str/\GB φ a/\GB φ b/\x.body=a.len/\x.eR=b.len/\a.len<=40/\∃r e p,t.cD=(.cons x a b r,e)::p/\r.str/\GB φ r:=by
 obtain⟨r,e,p,B⟩:=LO ht
 have h1:=h.p
 rw[B]at h1
 obtain⟨G,O,Z,I,U,W,M⟩:=h1.st _ (qs ..)
 obtain⟨E,Y,J,V⟩:=h1.al _ (qs ..)
 grind
theorem aip(h:Eh cs ls t)(ht:sX t.cD=some (x,a,b)):Eh cs ls (sY t x a b n).1/\(sY t x a b n).1.names=t.names/\((sY t x a b n).2=true->iU (sY t x a b n).1.cD+1<=iU t.cD):=by
 obtain⟨E,Y,sb,W,ab,hb,he,O,r,e,p,J,sr,ar⟩:=h.top ht
 have G:=h.p.pop
 have M:=Uf (r:=r) J
 have B:iU t.cD=m7 (.cons x a b r)+iU p:=by rw[J,um]
 have V:iM t.cD=lY r false p:=by rw[J];rfl
 have U:iU (iM t.cD)=m7 r+iU p:=by rw[V,uo]
 rw[yc]at B
 unfold sY
 split
 .exact⟨(h.set x.eY n).cD G (by show iU (iM t.cD)<=iU t.cD;omega),rfl,λ_=>M⟩
 split
 .rename_i wV
  rw[ew cU]at B
  have hc:iU (lY (if n=0 then b else a) false (iM t.cD))+1<=iU t.cD:=by rw[uo];grind
  refine⟨h.cD (LN.push G ?_ ?_) cU,rfl,λ_=>hc⟩<;>split<;>assumption
 split
 .rename_i wV
  rw[ez wV]at B
  have hxn:=E.n wV
  have Lb:=E.el cU
  unfold o0
  split
  .exact⟨h.cD G cU,rfl,λ_=>M⟩
  rename_i hn0
  have T3:iU (lY a false ((.cons {x with n:=x.n-1} a .nil .nil,true)::iM t.cD))+1<=iU t.cD:=by
   rw[uo,um,yc,ez (by exact wV),B,U]
   have e:x.n.toNat=(x.n-1).toNat+1:=cU
   rw[e,Nat.succ_mul]
   show m7 a+((x.n-1).toNat*(m7 a+1)+m7 .nil+1+_)+1<=_
   simp only[m7];omega
  refine⟨h.cD (LN.push ⟨?_,?_,?_⟩ Y W) cU,rfl,λ_=>T3⟩<;>intro q I<;>rcases ta.1 I with rfl|I
  .grind
  .exact G.ne q I
  .exact⟨hb,by show x.eR=((0:Nat):Int);omega,O,ob _,Y,trivial,trivial⟩
  .exact G.st q I
  .exact⟨⟨E.k,E.e,λhk=>⟨dH,dH⟩,E.el,E.rg,E.cl,E.lk,E.nm⟩,W,trivial,trivial⟩
  exact G.al q I
 split
 .have hl:iU (mP t.cD)+1<=iU t.cD:=by
   rw[B,J];unfold mP
   have:=Rr p
   grind
  exact⟨h.cD h.p.leave cU,rfl,λ_=>hl⟩
 split
 .split
  .exact⟨h.flt 1,rfl,λZ=>by cases Z⟩
  exact⟨h.cD G cU,rfl,λ_=>M⟩
 grind
theorem NL(h:Eh cs ls t):Eh cs ls (sq t).1/\(sq t).1.names=t.names/\((sq t).2=true->iU (sq t).1.cD+1<=iU t.cD):=by
 unfold sq
 cases ht:sX t.cD with
 | none=>grind
 | some q=>
  obtain⟨x,a,b⟩:=q
  dsimp only
  split
  .exact aip h ht
  .exact⟨h.flt 2,rfl,λB=>by cases B⟩
theorem LP:∀(n:Nat) {t:kG},Eh cs ls t->iU t.cD<n->∃tR,Ah n t=some tR/\Eh cs ls tR/\tR.names=t.names
 | 0,_,_,hc=>by omega
 | n+1,t,h,hc=>by
  obtain⟨h1,h2,h3⟩:=NL h
  unfold Ah
  split
  .rename_i hs
   have:=h3 hs
   have h4:Eh cs ls (sq t).1:=by have:=h1;rw[Eh,h2]at this |-;exact this
   obtain⟨tR,B,E,G⟩:=LP n h4 cU
   exact⟨tR,B,E,G.trans h2⟩
  grind
def goD(t:kG):kG:=(Ah (iU t.cD+1) t).getD t
theorem qm(h:Eh cs ls t):Ah (iU t.cD+1) t=some (goD t)/\Eh cs ls (goD t)/\(goD t).names=t.names:=by
 obtain⟨tR,B,E,G⟩:=LP (iU t.cD+1) h (Nat.lt_succ_self _)
 unfold goD
 grind
theorem LQ{n:Nat}(h:Ah n t=some tR):∃k,n=k+1:=by
 cases n with
 | zero=>cases h
 | succ k=>grind
theorem WV(h:Ah (k+1) t=some tR)(B:sq t=(t',true)):Ah k t'=some tR:=by
 unfold Ah at h;rw[B]at h;exact h
theorem xq(h:Ah (k+1) t=some tR)(B:sq t=(t',false)):tR=t':=by
 unfold Ah at h;rw[B]at h;exact(o5.inj h).symm
theorem WW:∀(n:Nat) {t tR:kG},Ah n t=some tR->Eh cs ls t->tR.fault=0->∀x a b,sX tR.cD=some (x,a,b)->(2<=x.kind/\x.kind<=10)/\(eS tR x.e).2=true/\(eS tR x.f).2=true
 | 0,_,_,E,_,_,_,_,_,_=>by cases E
 | n+1,t,tR,E,h,B,x,a,b,ht=>by
  obtain⟨h1,h2,_⟩:=NL h
  unfold Ah at E
  split at E
  .exact WW n E cU B x a b ht
  .rename_i hs
   cases E
   have hb:(sq t).2=false:=by simpa using hs
   unfold sq at hb B ht
   cases hq:sX t.cD with
   | none=>rw[hq]at ht;dsimp only at ht;rw[hq]at ht;cases ht
   | some q=>
    obtain⟨y,c,d⟩:=q
    rw[hq]at hb B ht
    dsimp only at hb B ht
    have G:=(h.top hq).1.k
    split at hb
    .rename_i hv
     rw[ez hv]at B ht
     unfold sY at hb B ht
     split at hb
     .cases hb
     rename_i k1
     rw[ew k1]at B ht
     split at hb
     .cases hb
     rename_i k2
     rw[ew k2]at B ht
     split at hb
     .cases hb
     rename_i k3
     rw[ew k3]at B ht
     split at hb
     .cases hb
     rename_i k4
     rw[ew k4]at B ht
     split at hb
     .rename_i k5
      rw[ez k5]at B
      split at hb
      .rename_i k6;rw[ez k6]at B;cases B
      .cases hb
     .rename_i k5
      rw[ew k5]at ht
      rw[hq]at ht;cases ht
      have e:(sq t).1=t:=by unfold sq;rw[hq];dsimp only;rw[ez hv];unfold sY;rw[ew k1,ew k2,ew k3,ew k4,ew k5]
      rw[e]
      exact⟨cU,hv⟩
    .rename_i hv
     rw[ew hv]at B;cases B
section
variable {e:Int}
theorem adV(h:x.kind=1):sY t x a b e=({v7 t x.eY e with cD:=iM t.cD},true):=by unfold sY;grind
theorem WX(h:x.kind=11):sY t x a b e=({t with cD:=lY (if e=0 then b else a) false (iM t.cD)},true):=by unfold sY;simp[h]
theorem NM(h:x.kind=12):sY t x a b e=({t with cD:=o0 x a t.cD},true):=by unfold sY;simp[h]
theorem WY(h:x.kind=13):sY t x a b e=({t with cD:=mP t.cD},true):=by unfold sY;simp[h]
theorem Rs(h:x.kind=14)(B:e=0):sY t x a b e=({t with fault:=1},false):=by unfold sY;grind
theorem Rt(h:x.kind=14)(B:¬ e=0):sY t x a b e=({t with cD:=iM t.cD},true):=by unfold sY;grind
theorem WZ(h1:¬ x.kind=1)(h2:¬ x.kind=11)(h3:¬ x.kind=12)(h4:¬ x.kind=13)(h5:¬ x.kind=14):sY t x a b e=(t,false):=by grind[sY]
end
theorem adW(h:sX t.cD=none):sq t=(t,false):=by unfold sq;rw[h]
theorem adX(h:sX t.cD=some (x,a,b))(h2:(eS t x.e).2=false):sq t=({t with fault:=2},false):=by unfold sq;grind
theorem adY(h:sX t.cD=some (x,a,b))(h3:(eS t x.f).2=false):sq t=({t with fault:=2},false):=by unfold sq;grind
theorem Fg(h:sX t.cD=some (x,a,b))(h2:(eS t x.e).2=true)(h3:(eS t x.f).2=true):sq t=sY t x a b (eS t x.e).1:=by unfold sq;grind
end
def Uh(a0:Option Addr)(B c0:Nat)(a1:Bool):pr hZ (mZ 227 [(0,.slice a0 B c0),(1,.bool a1)].toArray)=some (.agg [.slice a0 B c0,.bool a1].toArray):=by kernel_rfl
structure ur where
 l:SV
 NN:Bool
instance:Flat ur where
 agg:=true
 sz:=2
 enc e:=[.slice e.l.a e.l.n e.l.cap,.bool e.NN]
 val e:=.agg [.slice e.l.a e.l.n e.l.cap,.bool e.NN].toArray
 pos:=er
 len _:=rfl
 one a v h:=by simp at h;rcases h with rfl|rfl<;>rfl
 ot _ _:=rfl
 oS h:=by cases h
variable (w:World) (K:Value->iD)
def S127(I:Value):Prop:=
 aL 220 w λa b=>nC I λc=>fA 131 c 3 λd=>lA 129 d b λe=>lN 129 e λf=>bB .eql 3 f (i 0) λg=>cV g (eK hZ (mZ 220 [].toArray) λh=>sA 220 a h b λj=>
 lA 220 a j λr=>K (.tuple #[r,(.slice none 0 0),(.slice none 0 0),ff]) j) (nC I λk=>fA 131 k 3 λl=>lA 129 l (drew b) λn=>nC I λo=>fA 131 o 3 λp=>lA 129 p (drew b) λq=>
 lN 129 q λs=>bB .sub 3 s (i 1) λt=>iA 129 n t λu=>fA 227 u 0 λv=>lA 112 v (drew b) λx=>iA 112 x (i 0) λy=>lA 220 y (drew b) λz=>aL 220 (drew b) λE Y=>
 sA 220 E z Y λG=>fA 220 E 6 λW=>lA 3 W G λae=>bC .add 3 (i 1) ae λB=>fA 220 E 7 λO=>lA 3 O G λZ=>bA .add 3 B Z λJ=>lA 220 E (drew G) λU=>
 eK hZ (pA 112 x (some (i 1)) (some B) (some B)) λV=>eK hZ (pA 112 x (some B) (some J) (some J)) λal=>sA 220 a U (drew G) λM=>
 lA 220 a M λKe=>K (.tuple #[Ke,V,al,tt]) M)
def aCp:dM:=λi=>match i with
 | 3=>.run 0 14
 | 7=>.run 0 14
 | _=>.nil
theorem aiq(B:Value)(h:S127 w K B):CR 127 [B] w K:=
 qG 50 aCp 60 [.cell 2 220,.tmp 3,.tmp 4,.tmp 5] Tryz.func127 h
def aCq:dM:=λi=>match i with
 | 3=>.run 0 14
 | _=>.nil
def S222(B:Value):Prop:=
 lE (λE G a=>∀_:Env,
 eW (λK2=>eK hZ (Op.unary .not G) λb=>cV b (nC B λc=>fA 131 c 3 λd=>lA 129 d a λe=>lN 129 e λf=>bB .gtr 3 f (i 0) λg=>K2 g a) (K2 ff a))
 (λh j=>∀_:Env,
 cV h (nC B λk=>fA 131 k 3 λl=>lA 129 l j λn=>lN 129 n λo=>bB .sub 3 o (i 1) λp=>nC B λq=>fA 131 q 3 λr=>lA 129 r j λs=>iA 129 s p λt=>fA 227 t 1 λu=>
 lA 4 u j λv=>nC B λx=>fA 131 x 3 λy=>lA 129 y j λz=>eK hZ (pA 129 z none (some p) (some p)) λI=>nC B λO=>fA 131 O 3 λJ=>sA 129 J I j λM=>
 E v M) (K (.tuple #[]) j))) (λE=>E ff w)
theorem air(B:Value)(h:S222 w K B):CR 222 [B] w K:=
 qG 38 (λ_=>.nil) 0 [] Tryz.func222 h
def S163(B l1:Value):Prop:=
 lN 92 l1 λa=>bB .eql 3 a (i 0) λb=>cV b (K (.tuple #[(i 0),tt]) w) (nC B λc=>fA 131 c 1 λd=>lA 86 d (drew w) λe=>nC B λf=>fA 131 f 2 λg=>lA 22 g (drew w) λh=>
 cF 78 [l1,e,h] (drew w) λj k=>xT j 0 λl=>xT j 1 λn=>yp (λE=>bB .neq 40 n (i 0) λo=>cV o (nC B λp=>fA 131 p 4 λq=>sA 3 q (i 2) k λr=>E r) (E k))
 (λs=>∀_:Env,
 bB .eql 40 n (i 0) λt=>K (.tuple #[l,t]) s))
def aCr:dM:=λi=>match i with
 | 3=>.run 0 15
 | _=>.nil
theorem ais(B l1:Value)(h:S163 w K B l1):CR 163 [B,l1] w K:=
 qG 32 aCr 48 [.tmp 4,.tmp 5] Tryz.func163 h
def S119(B:Value):Prop:=
 Vo (λE a=>∀_:Env,
 cF 127 [B] a λb c=>xT b 0 λd=>xT b 1 λe=>xT b 2 λf=>xT b 3 λg=>aL 220 c λh j=>sA 220 h d j λk=>eK hZ (Op.unary .not g) λl=>cV l (K (.tuple #[]) k) (
 fA 220 h 3 λn=>lA 92 n k λo=>cF 163 [B,o] k λp q=>xT p 0 λr=>xT p 1 λs=>eK hZ (Op.unary .not s) λt=>cV t (K (.tuple #[]) q) (fA 220 h 4 λu=>lA 92 u q λv=>
 cF 163 [B,v] q λx y=>xT x 0 λ_=>xT x 1 λz=>eK hZ (Op.unary .not z) λU=>cV U (K (.tuple #[]) y) (fA 220 h 0 λab=>lA 3 ab y λG=>bB .eql 3 G (i 1) λad=>
 cV ad (nC B λae=>fA 131 ae 2 λJ=>lA 22 J (drew y) λM=>nC B λah=>fA 131 ah 1 λai=>lA 86 ai (drew y) λW=>fA 220 h 1 λak=>lA 9 ak (drew y) λal=>
 cF 146 [W,al] (drew y) λam O=>kA 22 J M O (iA 22 M am λao=>sA 3 ao r O λV=>cF 166 [B] V λ_ aq=>E aq)) (bB .eql 3 G (i 11) λar=>cV ar (cF 166 [B] y λ_ asx=>
 eW (λK2=>bB .eql 3 r (i 0) λau=>cV au (K2 f asx) (K2 e asx)) (λI Y=>∀_:Env,
 cF 118 [B,I,ff] Y λ_ aw=>E aw)) (bB .eql 3 G (i 12) λZ=>cV Z (lA 220 h y λay=>cF 221 [B,ay,e] y λ_ az=>E az) (bB .eql 3 G (i 13) λa0=>cV a0 (cF 222 [B] y λ_ a1=>
 E a1) (bB .eql 3 G (i 14) λa2=>cV a2 (bB .eql 3 r (i 0) λa3=>cV a3 (nC B λa4=>fA 131 a4 4 λa5=>sA 3 a5 (i 1) y λa6=>K (.tuple #[]) a6) (cF 166 [B] y λ_ a7=>
 E a7)) (K (.tuple #[]) y))))))))) (λE=>E w)
def aCs:dM:=λi=>match i with
 | 8=>(.of [(0,[]),(1,[]),(2,[]),(3,[]),(4,[]),(5,[]),(6,[]),(7,[]),(8,[]),(9,[]),(11,[]),(10,[3]),(12,[]),(13,[])])
 | _=>.nil
theorem ait(B:Value)(h:S119 w K B):CR 119 [B] w K:=
 qG 83 aCs 0 [] Tryz.func119 h
theorem Ru:PL 118:=dT Tryz.func118
theorem W0:PL 127:=dT Tryz.func127
theorem Rv:PL 166:=dT Tryz.func166
theorem avR:PL 221:=dT Tryz.func221
theorem avS:PL 222:=dT Tryz.func222
theorem Rw:PL 163:=dT Tryz.func163
theorem alw:PL 119:=dT Tryz.func119
theorem avT:PL 66:=dT Tryz.func66
end Go.Proofs.YtdncbeepkacgbaaGreatDoor
namespace Go.Fw
section
variable {P:Program}{w w0:World}{A S:Nat->Prop}{L:List HP}
theorem Jp{n cap l h m:Nat}{lo hi E:Option Value}(O:lo=none/\l=0\/∃i:Int,lo=some (iE i)/\0<=i/\l=i.toNat)(I:∃i:Int,hi=some (iE i)/\0<=i/\h=i.toNat)(J:∃i:Int,E=some (iE i)/\0<=i/\m=i.toNat)
  (h1:l<=h) (h2:h<=m) (h3:m<=cap):pr P (u1 true n cap lo hi E)=some (l,h,m):=by
 obtain⟨j,rfl,G,rfl⟩:=I
 obtain⟨k,rfl,B,rfl⟩:=J
 rcases O with⟨rfl,rfl⟩|⟨i,rfl,M,rfl⟩<;>simp only[u1,cH,fq,nY]
 .rw[jG B cU];simp only[nY];rw[jG G cU];rfl
 rw[jG B cU];simp only[nY];rw[jG G cU];simp only[nY];rw[jG M cU];rfl
theorem W3{T E sz J:Nat}{z:Option Nat}{a:Option Addr}{n cap l h m:Nat}{lo hi B:Option Value}(ht:eQ P T=some (E,sz,J,z))
  (hb:pr P (u1 true n cap lo hi B)=some (l,h,m)) :
  pr P (pA T (.slice a n cap) lo hi B)=some (.slice (if m=l then a else a.map (·.add (l*sz))) (h-l) (m-l)):=by
 obtain⟨G,M,I,O,_⟩:=gw ht
 unfold pA
 rw[cH,cJ G]
 simp only[nY]
 unfold Instr.slice
 rw[cH,cJ G]
 simp only[nY]
 rw[cH,hb]
 simp only[nY]
 rw[cH,o9 I,O]
 rfl
variable {α:Type}[Flat α] {xs:List α}
theorem dP.aCt{v:Value}{a:Option Addr}{n cap l h:Nat}(J:v=.slice a n cap)(U:dP S w v xs)(h1:l<=h)(h2:h<=xs.length) :
  dP S w (.slice (if h=l then a else a.map (·.add (l*og α))) (h-l) (h-l)) ((xs.take h).drop l):=by
 obtain⟨V,Kf,O,Z,h3⟩:=U
 rw[O]at J
 simp only[yR.injEq]at J
 obtain⟨rfl,W,rfl⟩:=J
 have hlen:((xs.take h).drop l).length=h-l:=by simp;omega
 rcases h3 with⟨I,Y⟩|⟨b,o,rfl,h4,h5⟩
 .subst I
  exact⟨_,h-l,by rw[hlen],et,.inl ⟨et,by simp at h2;omega⟩⟩
 refine⟨_,h-l,by rw[hlen],by rw[hlen];exact qQ _,.inr ?_⟩
 have M:(xs.take h).drop l≠[]->xs≠[]:=λG E=>G (by rw[E];simp)
 by_cases G:h=l
 .rw[ez G]
  refine⟨b,o,rfl,λE=>h4 (M E),λj c B=>?_⟩
  have:((xs.take h).drop l)=[]:=by rw[<- List.length_eq_zero_iff,hlen];omega
  rw[this]at B;simp[nj]at B
 rw[ew G]
 refine⟨b,o+l*og α,by simp[ix],λE=>h4 (M E),λj c B=>?_⟩
 rw[KT,KS,List.getElem?_drop,FC]at B
 split at B
 .have:=h5 _ c B
  rwa [show o+(l*og α+j)=o+l*og α+j from cU]at this
 cases B
theorem Rx{T E I:Nat}{z:Option Nat}{v:Value}{i j:Int}{K:Value->Prop}(ht:eQ P T=some (E,og α,I,z))(J:dP S w v xs)
  (M:0<=i) (h1:i<=j) (h2:j<=xs.length) (k:∀B,(∀w' (ys:List α),dP S w' v ys->dP S w' B ((ys.take j.toNat).drop i.toNat))->K B):eK P (pA T v (some (iE i)) (some (iE j)) (some (iE j))) K:=by
 obtain⟨a,cap,rfl,O,h3⟩:=J
 refine⟨_,W3 ht (Jp (.inr ⟨i,rfl,M,rfl⟩) ⟨j,rfl,cU,rfl⟩ ⟨j,rfl,cU,rfl⟩ cU (qQ _) cU),k _ λw' ys G=>G.aCt rfl cU ?_⟩
 obtain⟨_,_,h4,_⟩:=G
 grind
theorem Ui{T E I:Nat}{z:Option Nat}{v:Value}{i:Int}{K:Value->Prop}(ht:eQ P T=some (E,og α,I,z))(J:dP S w v xs)
  (M:0<=i) (h2:i<=xs.length) (k:∀B,(∀w' (ys:List α),dP S w' v ys->dP S w' B (ys.drop i.toNat))->K B):eK P (pA T v (some (iE i)) none none) K:=by
 obtain⟨a,cap,rfl,U,h3⟩:=J
 refine⟨_,zb ht (pa (.inr ⟨i,rfl,M,rfl⟩) (.inl ⟨rfl,rfl⟩) cU cU),k _ λw' ys G=>?_⟩
 have O:ys.length=xs.length:=by
  obtain⟨_,_,h4,_⟩:=G
  grind
 have:=G.cut rfl (show i.toNat<=ys.length by omega) (qQ _)
 grind
theorem Gh{T E V:Nat}{z:Option Nat}{v:Value}{i:Int}{K:Value->Prop}(ht:eQ P T=some (E,og α,V,z))
  (U:St w0 A (bG v xs::L) w) (M:0<=i) (h1:i<=xs.length) (k:∀J,St w0 A (bG J (xs.take i.toNat)::L) w->K J):eK P (pA T v none (some (iE i)) (some (iE i))) K:=by
 obtain⟨a,cap,B,Gq,_⟩:=U.fc
 refine⟨_,(by rw[B];exact W3 ht (Jp (.inl ⟨rfl,rfl⟩) ⟨i,rfl,M,rfl⟩ ⟨i,rfl,M,rfl⟩ (ob _) (qQ _) cU)),k _ ?_⟩
 refine U.qH λF G=>?_
 rcases G with⟨I,Y,W⟩|⟨b,Kf,rest,Z,hb,hl,G⟩
 .rw[I]at B
  subst Y
  simp only[yR.injEq]at B
  obtain⟨rfl,_,rfl⟩:=B
  have hi:i.toNat=0:=by simp at h1;omega
  refine⟨F,.inl ⟨?_,et,W⟩,λb hb=>.inl hb,gZ.refl _ _⟩
  rw[hi];rfl
 rw[Z]at B
 simp only[yR.injEq]at B
 obtain⟨rfl,_,rfl⟩:=B
 have O:(xs.take i.toNat).length=i.toNat:=by rw[n0];omega
 refine⟨F,.inr ⟨b,i.toNat,flat (xs.drop i.toNat)++rest,?_,?_,⟨cU,?_⟩,G⟩,λb hb=>.inl hb,gZ.refl _ _⟩
 .rw[O]
  simp[ix]
 .rw[<- o1,<- iP,List.take_append_drop];exact hb
 rw[lJ,dO,O];omega
end
end Go.Fw

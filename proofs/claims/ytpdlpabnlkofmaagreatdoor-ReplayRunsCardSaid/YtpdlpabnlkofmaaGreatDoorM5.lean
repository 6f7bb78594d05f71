/-
  Part 5.
-/
import Derived.Test.YtpdlpabnlkofmaaGreatDoorM4
set_option maxHeartbeats 8000000
set_option linter.all false
set_option maxRecDepth 100000
namespace Go.Proofs.YtpdlpabnlkofmaaGreatDoor
open Go.Fw
def kV(l:List bH)(c:Int):Option Int:=(l.reverse.find? λ x=>decide (x.kind=3/\x.cell=c)).map (·.n)
theorem C307(y sv:Value)(b:Nat)(xs:List bH)(J:Nat->World->Prop)(Jx:World->Prop)(w:World)(hn:xs.length<=1073741824)
  (hJ:∀k W,J k W->Cell W b 0 sv/\dC (λ _=>True) W sv xs) (h0:J 0 w)
  (hy:∀k x W,xs.reverse[k]?=some x->J k W->kq Tryz.prog y [.int .i64 ((xs.length:Int)-1-k),Flat.val x] W (λ v W'=>(v=.bool true/\J (k+1) W')\/(v=.bool false/\Jx W'))) :
  CR 307 [y,.pointer (some ⟨b,0,none⟩)] w (λ _ W=>J xs.length W\/Jx W):=by
 refine abt _ _ _ _ ?_;unfold S307;refine bM iE (hJ 0 w h0).1 (aI fO (hJ 0 w h0).2 (fe (by omega) ?_));refine⟨λ m x w1=>∃k:Nat,x=.int .i64 ((xs.length:Int)-1-k)/\m=xs.length-k/\k<=xs.length/\J k w1,⟨_,0,by simp,rfl,Nat.zero_le _,h0⟩,?_⟩;rintro m _ w1 ⟨k,rfl,rfl,hk,hj⟩ _;refine cS (aC (λ c=>?_) (λ c=>?_))
 ·obtain⟨h1,h2⟩:=hJ k w1 hj;have nH:k<xs.length:=by omega
  have hx:xs.reverse[k]?=some (xs[xs.length-1-k]'(by omega)):=by grind
  refine bM iE h1 (aO fO h2 (by omega) (x:=xs[xs.length-1-k]'(by omega)) (by simp_all) (λ q hq=>aE ic hq ?_));obtain hcv:=hy k _ w1 hx hj;refine kq.mono hcv ?_;rintro v w2 (⟨rfl,BA⟩|⟨rfl,GW⟩)
  ·refine bQ (fm (fe (by omega) ?_))
   grind
  refine bQ (ig ?_)
  grind
 grind
theorem C276(sv:Value)(w:World)(h1:uV sv=true):CR 276 [sv] w (λ v w'=>∃b,v=.func (.func 307) [].toArray [.pointer (some ⟨b,0,none⟩)].toArray/\lL (bY b [sv]) w w'):=by
 have hs:=St.start w;refine eS Tryz.func276 ?_;exact nj hs h1 (λ b _ hs=>⟨b,rfl,hs.fresh⟩)
theorem G7{α:Type}{p:α->Bool}{l:List α}{k:Nat}{x:α}(eD:∀y∈l.take k,p y=false)(hx:l[k]?=some x)(hp:p x=true):l.find? p=some x:=by
 rw[List.find?_eq_some_iff_getElem]
 have hk:=(List.getElem?_eq_some_iff.1 hx)
 obtain⟨nH,he⟩:=hk
 refine⟨hp,k,nH,he,λ j hj=>?_⟩
 have:=eD (l[j]'(by omega)) (List.mem_take_iff_getElem.2 ⟨j,by omega,rfl⟩)
 simp[this]
theorem C226(p:Nat)(c room:Int)(l:List bH)(w:World)(hb:tN w p room l)(hn:l.length<=1048576) :
  CR 226 [.pointer (some ⟨p,0,none⟩),.int .i64 c] w (λ v w'=>v=.tuple #[.int .i64 ((kV l c).getD 0),.bool (kV l c).isSome]/\Ext w w'):=by
 obtain⟨sv,B6,uG,hL⟩:=hb;have hs:=St.start w;refine eS Tryz.func226 ?_;refine nj hs rfl (λ b3 _ hs=>gO hs ud rfl (λ b4 _ hs=>gO hs Vx rfl (λ b5 _ hs=>aD (aA kB (bM iE (uG.ext hs.aF) (dN amt (C276 sv _ hL.one) ?_))))));rintro _ _ ⟨b,rfl,cO⟩;have hs:=hs.made cO
 refine wq (cap:=[.pointer (some ⟨b,0,none⟩)]) (xs:=(List.range l.length).map fun (k:Nat)=>[Value.int .i64 ((l.length:Int)-1-k),Flat.val ((l.reverse[k]?).getD ⟨0,0,0,0⟩)]) amF hs
  (λ k M=>M=[bY b [sv],bY b5 [.bool false],bY b4 [.int .i64 0],bY b3 [.int .i64 c]]/\∀y∈l.reverse.take k,decide (y.kind=3/\y.cell=c)=false)
  (λ cd M=>cd=.ret/\∃x,kV l c=some x/\M=[bY b5 [.bool true],bY b4 [.int .i64 x]])
  ⟨rfl,by simp⟩ (by simp) ?_ ?_ ?_ ?_ ?_ ?_
 ·
  intro y J Jx W hJ XV S4 hy;refine(C307 y sv b l J Jx W (by omega) (λ k W hk=>?_) S4 (λ k x W hx hk=>?_)).mono λ _ _ r=>r.mono λ v W' h=>?_
  ·obtain⟨Y,M,⟨rfl,_⟩,hS⟩:=hJ k W hk;exact⟨hS.p1.hb.cell rfl,hL.ext hS.aF⟩
  ·have nH:=(List.getElem?_eq_some_iff.1 hx).1;rw[List.length_reverse]at nH;have:=hy k [Value.int .i64 ((l.length:Int)-1-k),Flat.val x] W (by rw[List.getElem?_map,List.getElem?_range nH];simp[hx]) hk;exact this
  simpa using h
 ·
  rintro k args Y1 Y2 B Kr M W hk ⟨rfl,eD⟩ hB hN hR hs
  have nH:k<l.length:=by
   have:=(List.getElem?_eq_some_iff.1 hk).1
   simpa using this
  obtain⟨x,hx⟩:∃x,l.reverse[k]?=some x:=⟨_,List.getElem?_eq_getElem (by simpa using nH)⟩
  have ha:args=[Value.int .i64 ((l.length:Int)-1-k),Flat.val x]:=by
   rw[List.getElem?_map,List.getElem?_range nH]at hk;simp[hx]at hk;exact hk.symm
  subst ha;dsimp only[Du];refine aM hs qX (λ b7 _ hs=>DC hs ic rfl (by decide) (by simp[uV,iX]) (λ _ hs=>?_));refine hB _ _ _ hs.p1 (λ w8 hs=>?_);have e7:iX [Value.int IntKind.i64 0,.int .i64 0,.int .i64 0,.int .i64 0] 0 [Value.int .i64 x.kind,.int .i64 x.line,.int .i64 x.cell,.int .i64 x.n]=Flat.enc x:=rfl;refine⟨_,?_,λ _ _ h=>h⟩;refine aA gv (aB bL hs.p1.hb rfl (aH ?_))
  have no:¬ (x.kind=3/\x.cell=c)->Kr none w8:=λ hh=>by
   refine hN _ _ (hs.p1.drop.p0) ⟨rfl,?_⟩;exact dR eD hx (by simpa using hh)
  refine aC (λ c1=>?_) (λ c1=>?_)
  ·refine aA mc (aB bL hs.p1.hb rfl (aB bL hs.p5.hb rfl (aH ?_)));intro sK;refine aC (λ c2=>aA oG (aB bL hs.p1.hb rfl (aS hs.p4 bL (Nat.le_of_ble_eq_true rfl) rfl (λ _ hs=>aS hs.p4 zQ (Nat.le_of_ble_eq_true rfl) rfl (λ _ hs=>hR _ [bY b5 [.bool true],bY b4 [.int .i64 x.n]] _ ((hs.p5.drop.p4.drop.p3.drop).p2) ⟨rfl,x.n,?_,rfl⟩))))) (λ c2=>no λ hh=>c2 hh.2);unfold kV;rw[G7 eD hx (by simpa using⟨c1,c2⟩)];rfl
  intro sK;exact fm (no λ hh=>c1 hh.1)
 ·
  rintro D M W ⟨rfl,eD⟩ hs;refine aS hs.p3 bL (Nat.le_of_ble_eq_true rfl) rfl (λ _ hs=>aS hs.p3 zQ (Nat.le_of_ble_eq_true rfl) rfl (λ _ hs=>?_));refine DN hs.p2 (λ w15 hs=>?_);refine aB bL hs.p1.hb rfl (aB zQ hs.hb rfl ?_)
  have:kV l c=none:=by
   unfold kV
   rw[show l.reverse.find? _=none from List.find?_eq_none.2 λ y hy=>by
    have:=eD y (by rw[List.take_of_length_le (by simp)];exact hy);simp only[this];exact Bool.false_ne_true]
   rfl
  rw[this];exact⟨rfl,hs.aF⟩
 ·rintro D M W ⟨_,x,hl,rfl⟩ hs;refine DN hs (λ w15 hs=>?_);refine aB bL hs.p1.hb rfl (aB zQ hs.hb rfl ?_);rw[hl];exact⟨rfl,hs.aF⟩
 ·rintro id D M W ⟨h,_⟩;cases h
 rintro c M ⟨h,_⟩;exact .inr h
theorem IZ{α:Type}(l:List α)(i:Nat):([]++l.take i)++l.drop (i+1)=l.eraseIdx i:=by
 grind
theorem I0{α:Type}{xs ys:List α}{k:Nat}{e f:α}(h:xs.take k=ys.take k)(h1:xs[k]?=some e)(h2:ys[k]?=some f)(he:e=f):xs.take (k+1)=ys.take (k+1):=by
 rw[List.take_add_one,List.take_add_one,h,h1,h2,he]
theorem TF{α:Type}{xs ys:List α}{k:Nat}{e f:α}(h1:xs[k]?=some e)(h2:ys[k]?=some f)(he:¬ e=f):¬ xs=ys:=by
 grind
theorem Pa{l:List bH}{c:Int}{k:Nat}{x:bH}(eD:∀y∈l.drop (k+1),¬ (y.kind=3/\y.cell=c))(hx:l[k]?=some x)(hp:x.kind=3/\x.cell=c):kV l c=some x.n:=by
 unfold kV
 have nH:=(List.getElem?_eq_some_iff.1 hx).1
 rw[G7 (k:=l.length-1-k) (x:=x) ?_ ?_ (by grind)]
 ·rfl
 ·intro y hy
  have:y∈l.drop (k+1):=by
   rw[List.take_reverse]at hy
   grind
  grind
 grind
theorem Pb{l:List bH}{c:Int}(eD:∀y∈l,¬ (y.kind=3/\y.cell=c)):kV l c=none:=by
 grind[kV]
theorem RS{l:List bH}{c:Int}{k:Nat}{x:bH}(eD:∀y∈l.drop (k+1),¬ (y.kind=3/\y.cell=c))(hx:l[k]?=some x)(hp:¬ (x.kind=3/\x.cell=c)):∀y∈l.drop k,¬ (y.kind=3/\y.cell=c):=by
 intro y hy
 obtain⟨nH,he⟩:=List.getElem?_eq_some_iff.1 hx
 rw[List.drop_eq_getElem_cons nH]at hy
 grind
theorem adk{l:List bH}{i:Int}{k:Nat}{x y:bH}(h0:0<=i)(h1:i<l.length)(hx:l[i.toNat]?=some x)(hk:k<i.toNat)(hy:l[k]?=some y)(hp:jS x y=false):q9 l i=false:=by
 rw[RP h0 h1 hx]
 have:(l.take i.toNat).any (λ y=>!jS x y)=true:=by
  rw[List.any_eq_true]
  exact⟨y,List.mem_iff_getElem?.2 ⟨k,by grind⟩,by grind⟩
 grind
theorem Yj{l:List bH}{i:Int}{x:bH}(h0:0<=i)(h1:i<l.length)(hx:l[i.toNat]?=some x)(hp:∀y∈l.take i.toNat,jS x y=true):q9 l i=true:=by
 grind[q9]
theorem C49(room:Int)(w:World):CR 49 [.int .i64 room] w (λ v w'=>((room<1\/16<room)/\v=.tuple #[.pointer none,.int .i64 1]/\Ext w w')\/(1<=room/\room<=16/\∃b,v=.tuple #[.pointer (some ⟨b,0,none⟩),.int .i64 0]/\lL (ja b room []) w w')):=by
 have hs:=St.start w;refine eS Tryz.func49 ?_;refine⟨_,?_,λ _ _ h=>h⟩;refine aQ (aC (λ Yh=>?_) (λ Yh=>?_))
 ·intro sK;exact ig (.inl ⟨by omega,rfl,hs.aF⟩)
 refine cP ?_;intro sK;exact aC (λ _=>.inl ⟨by omega,rfl,hs.aF⟩) (λ _=>pop (VO _) (nk hs (λ b _ hs=>have hs:=(hs.eJ (α:=bH)).p1;.inr ⟨by omega,by omega,b,rfl,(ja.shut hs).fresh⟩)))
theorem C58(room:Int)(w:World):CR 58 [.int .i64 room] w (λ v w'=>((room<1\/16<room)/\v=.tuple #[.pointer none,.int .i64 1]/\Ext w w')\/(1<=room/\room<=16/\∃b,v=.tuple #[.pointer (some ⟨b,0,none⟩),.int .i64 0]/\lL (ja b room []) w w')):=by
 have hs:=St.start w;refine eS Tryz.func58 ?_;refine⟨_,?_,λ _ _ h=>h⟩;refine aQ (aC (λ Yh=>?_) (λ Yh=>?_))
 ·intro sK;exact ig (.inl ⟨by omega,rfl,hs.aF⟩)
 refine cP ?_;intro sK;exact aC (λ _=>.inl ⟨by omega,rfl,hs.aF⟩) (λ _=>pop (VP _) (nk hs (λ b _ hs=>have hs:=(hs.eJ (α:=bH)).p1;.inr ⟨by omega,by omega,b,rfl,(ja.shut hs).fresh⟩)))
theorem C71(av bv:Value)(xs ys:List Int)(w:World)(hA:dC (λ _=>True) w av xs)(hB:dC (λ _=>True) w bv ys)(hn:xs.length<=1073741824):CR 71 [av,bv] w (λ v w'=>v=.bool (decide (xs=ys))/\Ext w w'):=by
 have hs:=St.start w;refine oY Tryz.func71 (pl:=P71) ?_;refine aI cM (hA.ext hs.aF) (aI cM (hB.ext hs.aF) (bV (aC (λ _=>⟨vb (decide_eq_false (by rintro rfl;omega)).symm,hs.aF⟩) (λ gL=>?_))));refine⟨λ m x w1=>∃k:Nat,x=.int .i64 (k:Int)/\m=xs.length-k/\k<=xs.length/\xs.take k=ys.take k/\St w aY [] w1,⟨_,0,rfl,rfl,Nat.zero_le _,rfl,hs⟩,?_⟩;rintro m _ w1 ⟨k,rfl,rfl,hk,Yk,hs⟩ _;refine aI cM (hA.ext hs.aF) (aQ (aC (λ jI=>?_) (λ _=>⟨vb (decide_eq_true (by rw[List.take_of_length_le (by omega),List.take_of_length_le (by omega)]at Yk;exact Yk)).symm,hs.aF⟩)));obtain⟨lV,jK⟩:=gx (xs) (i:=((k:Int)).toNat) (by omega)
 refine aO cM (hA.ext hs.aF) (by omega) jK (λ _ mi=>have hs:=hs.drew;aE bL (mi) ?_);obtain⟨qh,kI⟩:=gx (ys) (i:=((k:Int)).toNat) (by omega);exact aO cM (hB.ext hs.aF) (by omega) kI (λ _ qi=>aE bL (qi) (bV (aC (λ jw=>⟨vb (decide_eq_false (TF jK kI jw)).symm,hs.aF⟩) (λ jw=>aK (by omega) ⟨xs.length-(k+1),by omega,k+1,rfl,rfl,by omega,I0 Yk jK kI (Decidable.not_not.1 jw),hs⟩))))
theorem C229(p:Nat)(c room:Int)(l:List bH)(w:World)(hb:tN w p room l)(hn:l.length<=1073741824):CR 229 [.pointer (some ⟨p,0,none⟩),.int .i64 c] w (λ v w'=>v=.tuple #[.int .i64 ((kV l c).getD 0),.bool (kV l c).isSome]/\Ext w w'):=by
 obtain⟨sv,B6,uG,hL⟩:=hb;have hs:=St.start w;refine abh _ _ _ _ ?_;unfold S229;refine aD (aA gP (bM iE (uG.ext hs.aF) (aI fO (hL.ext hs.aF) (fe (by omega) ?_))));refine⟨λ m x w1=>∃k:Nat,x=.int .i64 ((k:Int)-1)/\m=k/\k<=l.length/\(∀y∈l.drop k,¬ (y.kind=3/\y.cell=c))/\St w aY [] w1,⟨_,l.length,rfl,rfl,Nat.le_refl _,by simp,hs⟩,?_⟩;rintro k _ w1 ⟨_,rfl,rfl,hk,eD,hs⟩ _;refine cS (aC (λ jI=>?_) (λ jI=>?_))
 ·refine⟨_,?_,λ _ _ h=>h⟩;refine aD (aA gP (bM iE (uG.ext hs.aF) ?_));obtain⟨Ck,pE⟩:=gx (l) (i:=(((k:Int)-1)).toNat) (by omega);refine aO fO (hL.ext hs.aF) (by omega) pE (λ _ wH=>bW (Ck).kind gv wH rfl rfl (λ _ qi=>aE bL (qi) (aH (aC (λ jw=>?_) (λ jw=>?_)))))
  ·refine aD (aA gP (bM iE (uG.ext hs.aF) (aO fO (hL.ext hs.aF) (by omega) pE (λ _ Au=>bW (Ck).cell mc Au rfl rfl (λ _ qO=>aE bL (qO) (aH ?_))))));intro vz;refine aC (λ oK=>?_) (λ oK=>fe (by omega) ⟨k-1,by omega,k-1,by congr 1;omega,rfl,by omega,RS (x:=Ck) (by rw[show k-1+1=k from by omega];exact eD) (by rw[<- pE];congr 1;omega) (λ hh=>oK hh.2),hs⟩);refine aD (aA gP (bM iE (uG.ext hs.aF) (aO fO (hL.ext hs.aF) (by omega) pE (λ _ vH=>bW (Ck).n oG vH rfl rfl (λ _ wS=>aE bL (wS) ?_)))))
   rw[Pa (k:=k-1) (x:=Ck) (by rw[show k-1+1=k from by omega];exact eD) (by rw[<- pE];congr 1;omega) ⟨jw,oK⟩];exact⟨rfl,hs.aF⟩
  intro vz;exact fm (fe (by omega) ⟨k-1,by omega,k-1,by congr 1;omega,rfl,by omega,RS (x:=Ck) (by rw[show k-1+1=k from by omega];exact eD) (by rw[<- pE];congr 1;omega) (λ hh=>jw hh.1),hs⟩)
 rw[Pb (by rw[show k=0 from by omega]at eD;simpa using eD)];exact⟨rfl,hs.aF⟩
theorem C151(p:Nat)(i room:Int)(l:List bH)(w:World)(hb:tN w p room l)(hn:l.length<=1073741824):CR 151 [.pointer (some ⟨p,0,none⟩),.int .i64 i] w (λ v w'=>v=.bool (q9 l i)/\Ext w w'):=by
 obtain⟨sv,B6,uG,hL⟩:=hb;have hs:=St.start w;refine oY Tryz.func151 (pl:=atF) ?_;refine⟨_,?_,λ _ _ h=>h⟩;refine aQ (aC (λ gH=>?_) (λ gH=>?_))
 ·intro sK;exact ig ⟨vb (lG (by omega)).symm,hs.aF⟩
 refine aD (aA gP (bM iE (uG.ext hs.aF) (aI fO (hL.ext hs.aF) (cS ?_))));intro sK;refine aC (λ _=>⟨vb (lG (by omega)).symm,hs.aF⟩) (λ dO=>?_);refine⟨λ m x w1=>∃k:Nat,x=.int .i64 (k:Int)/\m=i.toNat-k/\(k:Int)<=i/\(∀x y,l[i.toNat]?=some x->y∈l.take k->jS x y=true)/\St w aY [] w1,⟨_,0,rfl,rfl,by omega,by simp,hs⟩,?_⟩;rintro m _ w1 ⟨k,rfl,rfl,hk,ki,hs⟩ _;refine aQ (aC (λ eQ=>?_) (λ eQ=>⟨vb (Yj (x:=l[i.toNat]'(by omega)) (by omega) (by omega) (List.getElem?_eq_getElem _) λ y hy=>ki _ y (List.getElem?_eq_getElem _) (by rw[show k=i.toNat from by omega];exact hy)).symm,hs.aF⟩))
 refine aD (aA gP (have hs:=hs.drew;bM iE (uG.ext hs.aF) ?_));obtain⟨RT,wT⟩:=gx (l) (i:=(i).toNat) (by omega);refine aO fO (hL.ext hs.aF) (by omega) wT (λ _ ux=>aE ic (ux) (aD (aA gP (bM iE (uG.ext hs.aF) ?_))));obtain⟨uH,oO⟩:=gx (l) (i:=((k:Int)).toNat) (by omega);refine aO fO (hL.ext hs.aF) (by omega) oO (λ _ wO=>aE ic (wO) (aT amd hs (C222 _ _ _) (λ _ he hs=>bQ (aW (λ oK=>⟨vb (adk (by omega) (by omega) wT (by omega) oO (by simpa using oK)).symm,hs.aF⟩) (λ oK=>aK (by omega) ?_)))));refine⟨i.toNat-(k+1),by omega,k+1,rfl,rfl,by omega,λ x y hx hy=>?_,hs⟩
 rw[Option.some.inj (hx.symm.trans wT)]at *;exact dR (φ:=λ y=>jS RT y=true) (λ y hy=>ki _ y hx hy) oO (by simpa using oK) y hy
theorem C81(p:Nat)(room:Int)(l:List bH)(w:World)(hb:tN w p room l)(hn:l.length<=1048576):CR 81 [.pointer (some ⟨p,0,none⟩)] w (λ v w'=>lL (bG v (pa l)) w w'):=by
 have Yi:=hb;obtain⟨sv,B6,uG,hL⟩:=hb;have hs:=St.start w;refine eS Tryz.func81 ?_;refine aX (([]:List Int)) hs cM rfl rfl (dI rfl) (λ Oe w1 hs=>?_);refine⟨λ m o x w1=>∃k:Nat,x=.int .i64 (k:Int)/\m=l.length-k/\k<=l.length/\St w aY [bG o (sf l k)] w1,⟨_,0,rfl,rfl,Nat.zero_le _,hs⟩,?_⟩;rintro m o _ w1 ⟨k,rfl,rfl,hk,hs⟩ _;have Ew:=G3 l k;refine aD (aA gP (bM iE (uG.ext hs.aF) (aI fO (hL.ext hs.aF) (aQ (aC (λ mR=>⟨_,aT aeU hs (C151 _ _ _ _ _ (Yi.ext hs.aF) (by omega)) (λ _ he hs=>aW (λ jY=>?_) (λ jY=>?_)),λ _ _ h=>h⟩) (λ mR=>?_))))))
 ·refine aX (([(k:Int)]:List Int)) hs cM rfl rfl (dI rfl) (λ Yl _ hs=>?_);have aiC:=(hs).dX;refine bI hs.p1 cM aiC (by simp<;>omega) (by decide) (λ afW _ hs=>?_);have hs:=hs.p1.drop;intro vz;exact aK (by omega) ⟨l.length-(k+1),by omega,k+1,rfl,rfl,by omega,by rw[EU jY];exact hs⟩
 ·intro vz;exact aK (by omega) ⟨l.length-(k+1),by omega,k+1,rfl,rfl,by omega,by rw[G4 jY];exact hs⟩
 rw[EV l (by omega)]at hs;exact hs.fresh
theorem C230(p:Nat)(room:Int)(l:List bH)(x:bH)(F:Nat->Prop)(w:World)(hF:(ja p room l).p w F)(hn:l.length<=1048576):CR 230 [.pointer (some ⟨p,0,none⟩),Flat.val x] w (λ v w'=>v=.int .i64 (LY room l x)/\mL F (ja p room (sg room l x)) w w'):=by
 have hs:=St.begin hF;obtain⟨sv,hs⟩:=hs.er;have hs:=hs.split;refine oY Tryz.func230 (pl:=atV) ?_;refine cI hs (λ aww _ hs=>aE ic hs.At (aT amu hs (C277 _ _) (λ _ he hs=>bQ (aW (λ gH=>?_) (λ gH=>aD (aA gP (have hs:=hs.drew;aB iE hs.p1.hb rfl (aI fO (hs.p2).dX (aD (aA VG (aB bL hs.p1.hb rfl (cS (aC (λ jY=>?_) (λ jY=>?_))))))))))))))
 ·have hs:=hs.p2.p2;rw[LZ (by simpa using gH),L3 (by simpa using gH)];exact⟨rfl,(ja.shut hs).mut⟩
 ·have hs:=hs.p2.p2;rw[G5 (by simpa using gH) jY,G6 jY];exact⟨rfl,(ja.shut hs).mut⟩
 refine aD (aA gP (have hs:=hs.drew;aB iE hs.p1.hb rfl (aE ic hs.At (aX ([x]) hs fO rfl rfl (dI rfl) (λ s_x24 _ hs=>?_)))));refine⟨aG iE (hs.p2.hb.cell rfl),?_⟩;have Ow:=(hs).dX;refine bI hs.p3 fO Ow (by simp<;>omega) (by decide) (λ s_x25 _ hs=>have hs:=hs.p1.drop;aD (aA gP (aS hs.p2 iE (dI rfl) ((hs).dX.one) (λ _ hs=>?_))));have hs:=hs.p1.p1;rw[RQ (by simpa using gH) jY,RR (by simpa using gH) jY];exact⟨rfl,(ja.shut hs).mut⟩
theorem C165(p:Nat)(room:Int)(l:List bH)(i:Int)(F:Nat->Prop)(w:World)(hF:(ja p room l).p w F)(hn:l.length<=1048576):CR 165 [.pointer (some ⟨p,0,none⟩),.int .i64 i] w (λ v w'=>v=.tuple #[Flat.val (dB l i),.int .i64 (wR l i)]/\mL F (ja p room (jL l i)) w w'):=by
 have hs:=St.begin hF;obtain⟨sv,hs⟩:=hs.er;have hs:=hs.split;refine abd _ _ _ _ ?_;unfold S165;refine aM hs qX (λ Oh _ hs=>?_);refine⟨_,?_,λ _ _ h=>h⟩;refine aQ (aC (λ jj=>?_) (λ jj=>?_))
 ·intro sK;refine ig (pop (xy) (aJ (x:=(⟨0,0,0,0⟩:bH)) hs ic rfl rfl (λ w3 hs=>aE ic hs.At ?_)));have hs:=hs.p2.p2;rw[ru (lG (by omega)),xH (by omega),ry (lG (by omega))];exact⟨rfl,(ja.shut hs).mut⟩
 refine aD (aA gP (aB iE hs.p1.hb rfl (aI fO (hs.p2).dX (cS ?_))));intro sK;refine aC (λ lB=>?_) (λ lB=>aT aeU hs (C151 _ _ _ _ _ (tN.mk' hs.p1.hb hs.p2.dX) (by omega)) (λ _ he hs=>bQ (aW (λ mS=>?_) (λ mS=>?_))))
 ·refine pop (xy) (aJ (x:=(⟨0,0,0,0⟩:bH)) hs ic rfl rfl (λ w3 hs=>aE ic hs.At ?_));have hs:=hs.p2.p2;rw[ru (lG (by omega)),xH (by omega),ry (lG (by omega))];exact⟨rfl,(ja.shut hs).mut⟩
 ·refine pop (xy) (aJ (x:=(⟨0,0,0,0⟩:bH)) hs ic rfl rfl (λ _ hs=>aE ic hs.At ?_));have hs:=hs.p2.p2;rw[ru (by simpa using mS),L4 (by omega) (by simpa using mS),ry (by simpa using mS)];exact⟨rfl,(ja.shut hs).mut⟩
 refine aD (aA gP (aB iE hs.p1.hb rfl ?_));obtain⟨qL,fZ⟩:=gx (l) (i:=(i).toNat) (by omega);refine dM hs.p2 fO (by omega) (by omega) (λ _ mj=>gD hs.p2 ic mj fZ (aM hs qX (λ O9 _ hs=>aJ (x:=qL) hs ic rfl rfl (λ _ hs=>aX (([]:List bH)) hs fO rfl rfl (dI rfl) (λ apR _ hs=>aD (aA gP (aB iE hs.p3.hb rfl (lK fO (hs.p4).dX (by omega) (by omega) (λ apa yn=>?_)))))))));have aiD:=yn;refine bI hs fO aiD (by simp<;>omega) (by decide) (λ apb _ hs=>aD (aA gP (aB iE hs.p3.hb rfl (aK (by omega) (Bi fO (hs.p4).dX (by omega) (by omega) (λ apS Am=>?_))))))
 have Pc:=Am;refine bI hs fO Pc (by simp<;>omega) (by decide) (λ apT _ hs=>aD (aA gP (aS hs.p3 iE (dI rfl) ((hs).dX.one) (λ _ hs=>aE ic hs.p2.At (aJ (x:=qL) hs.p3 ic rfl rfl (λ _ hs=>aE ic hs.At ?_))))));have hs:=hs.p2.p2;rw[L6 (by simpa using mS) fZ,L5 (by simpa using mS),L7 (by simpa using mS),<- IZ,<- show(i+1).toNat=i.toNat+1 from by omega];exact⟨rfl,(ja.shut hs).mut⟩
structure Mem where
 of:List Int
 dV:List Int
 l:List Int
 kept:List Int
 fF:Int->List j4
def fP(of:List Int):Int:=if of.length=0 then 0 else of.getD (of.length-1) 0+1
def nG(k:List Int)(ws:List j4):List Int:=ws.foldl (λ k w=>k.set w.cell.toNat w.n) k
theorem wU(ws:List j4):∀k:List Int,(nG k ws).length=k.length:=by
 induction ws with
 | nil=>intro k;rfl
 | cons x ws ih=>simp_all[nG]
theorem BL(ws:List j4)(x:j4)(k:List Int):nG k (ws++[x])=(nG k ws).set x.cell.toNat x.n:=by
 unfold nG;grind
theorem G8{ws:List j4}{j:Nat}{x:j4}{k:List Int}(hx:ws[j]?=some x):nG k (ws.take (j+1))=(nG k (ws.take j)).set x.cell.toNat x.n:=by
 rw[List.take_add_one,hx];exact BL _ _ _
def F3(m:Mem)(cell:Int):Bool:=decide (0<=cell/\cell<m.l.length)
def fh(m:Mem)(cell n:Int):Mem:=if F3 m cell=true then {m with l:=m.l.set cell.toNat n,fF:=if cell<m.of.length then px m.fF (m.of.getD cell.toNat 0) (m.fF (m.of.getD cell.toNat 0)++[⟨cell,n⟩])else m.fF}else m
def EW(m:Mem)(line:Int):Bool:=decide (0<=line/\line<fP m.of)
def nV(m:Mem)(line:Int):Mem:=if EW m line=true then {m with kept:=nG m.kept (m.fF line),fF:=px m.fF line []}else m
structure vV(m:Mem):Prop where
 L8:m.of.length<=m.dV.length
 fl:m.dV.length<=20
 ll:m.l.length=m.dV.length
 kl:m.kept.length=m.of.length
 ofr:∀n∈m.of,0<=n/\n<fP m.of
 lb:fP m.of<=20
 pc:∀k,∀x∈m.fF k,0<=x.cell/\x.cell<m.of.length
def MB(m:Mem)(n:Nat):Prop:=∀k,(m.fF k).length<=n
def iB(p:Nat)(ov fv:Value)(m:Mem):HP:=qd λ lv=>qd λ kv=>qd λ pm=>sep (bY p [ov,fv,lv,kv,.map (some pm)]) (sep (bG lv m.l) (sep (bG kv m.kept) (qN pm m.fF)))
def AH(ov fv:Value)(m:Mem)(w:World):Prop:=dC (λ _=>True) w ov m.of/\dC (λ _=>True) w fv m.dV
def xY(w:World)(p:Nat)(m:Mem):Prop:=∃ov fv lv kv pm,Cell w p 0 ov/\Cell w p 1 fv/\Cell w p 2 lv/\Cell w p 3 kv/\Cell w p 4 (.map (some pm))/\dC (λ _=>True) w ov m.of/\dC (λ _=>True) w fv m.dV/\dC (λ _=>True) w lv m.l/\dC (λ _=>True) w kv m.kept/\vE w pm m.fF
section
variable {w w' w0:World}{A F:Nat->Prop}{R:List HP}{p:Nat}{ov fv lv kv:Value}{m:Mem}{pm:Nat}
theorem xY.ext(h:xY w p m)(e:Ext w w'):xY w' p m:=by
 obtain⟨ov,fv,lv,kv,pm,c0,c1,c2,c3,c4,h0,h1,h2,h3,h4⟩:=h
 exact⟨ov,fv,lv,kv,pm,c0.ext e,c1.ext e,c2.ext e,c3.ext e,c4.ext e,h0.ext e,h1.ext e,h2.ext e,h3.ext e,h4.ext e⟩
theorem xY.mk'(h:ng w p [ov,fv,lv,kv,.map (some pm)])(hK:AH ov fv m w)(h2:dC (λ _=>True) w lv m.l)(h3:dC (λ _=>True) w kv m.kept)(h4:vE w pm m.fF):xY w p m:=
 ⟨ov,fv,lv,kv,pm,h.cell rfl,h.cell rfl,h.cell rfl,h.cell rfl,h.cell rfl,hK.1,hK.2,h2,h3,h4⟩
theorem iB.open(hs:St w0 A (iB p ov fv m::R) w):∃lv kv pm,St w0 A (bY p [ov,fv,lv,kv,.map (some pm)]::bG lv m.l::bG kv m.kept::qN pm m.fF::R) w:=by
 obtain⟨lv,hs⟩:=hs.er;obtain⟨kv,hs⟩:=hs.er;obtain⟨pm,hs⟩:=hs.er
 have h1:=hs.split
 have h2:=h1.p1.split
 have h3:=(h2.p1.split)
 exact⟨lv,kv,pm,h3.p2.p3⟩
theorem iB.shut(hs:St w0 A (bY p [ov,fv,lv,kv,.map (some pm)]::bG lv m.l::bG kv m.kept::qN pm m.fF::R) w):St w0 A (iB p ov fv m::R) w:=by
 have h1:St w0 A (sep (bG kv m.kept) (qN pm m.fF)::bY p [ov,fv,lv,kv,.map (some pm)]::bG lv m.l::R) w:=St.join (hs.p3.p3)
 have h2:St w0 A (sep (bG lv m.l) (sep (bG kv m.kept) (qN pm m.fF))::bY p [ov,fv,lv,kv,.map (some pm)]::R) w:=St.join h1.p2
 exact St.et lv (St.et kv (St.et pm (St.join h2.p1)))
theorem I1(hs:St w0 A (iB p ov fv m::R) w)(hK:AH ov fv m w):xY w p m:=by
 obtain⟨lv,kv,pm,hs⟩:=iB.open hs
 exact xY.mk' hs.hb hK hs.p1.dX hs.p2.dX hs.p3.WD
end
theorem C148(p:Nat)(m:Mem)(w:World)(hm:xY w p m)(hk:vV m):CR 148 [(.pointer (some ⟨p,0,none⟩))] w (λ v w'=>v=.int .i64 (fP m.of)/\Ext w w'):=by
 have L9:=hm;obtain⟨ov,fv,lv,kv,pm,c0,c1,c2,c3,c4,hO,NB,hL,hKp,hP⟩:=hm;have Ma:=hk.fl;have JG:=hk.L8;have Cy:=hk.ll;have FJ:=hk.kl;have Nw:=hk.lb;have hs:=St.start w;refine oY Tryz.func148 (pl:=atE) ?_;refine aD (aA wk (bM eg (c0.ext hs.aF) (aI cM (hO.ext hs.aF) (aH (aC (λ _=>⟨congrArg (Value.int .i64) (by unfold fP;rw[if_pos (by omega)]),hs.aF⟩) (λ fL=>aD (aA wk (have hs:=hs.drew;bM eg (c0.ext hs.aF) (aD (aA wk (bM eg (c0.ext hs.aF) (aI cM (hO.ext hs.aF) (fe (by omega) ?_)))))))))))));obtain⟨lV,jK⟩:=gx (m.of) (i:=((((m.of).length:Int)-1)).toNat) (by omega)
 refine aO cM hO (by omega) jK (λ _ mi=>aE bL (mi.ext hs.aF) ?_);have awx:=hk.ofr _ (List.mem_of_getElem? jK);exact aK (by omega) ⟨congrArg (Value.int .i64) (by unfold fP;rw[if_neg (by omega),List.getD_eq_getElem?_getD,show m.of.length-1=((m.of.length:Int)-1).toNat from by omega,jK];rfl),hs.aF⟩
theorem C227(p:Nat)(m:Mem)(cell:Int)(w:World)(hm:xY w p m)(hk:vV m):CR 227 [(.pointer (some ⟨p,0,none⟩)),.int .i64 cell] w (λ v w'=>v=.tuple #[.int .i64 (if F3 m cell=true then m.l.getD cell.toNat 0 else 0),.int .i64 (if F3 m cell=true then 0 else 1)]/\Ext w w'):=by
 have L9:=hm;obtain⟨ov,fv,lv,kv,pm,c0,c1,c2,c3,c4,hO,NB,hL,hKp,hP⟩:=hm;have hs:=St.start w;refine eS Tryz.func227 ?_;refine⟨λ jv w'=>jv=.bool (decide (cell<0\/m.l.length<=cell))/\w=w',aQ (aC (λ _=>⟨JX (by omega),rfl⟩) (λ _=>aD (aA rM (bM eg (c2.ext hs.aF) (aI cM (hL.ext hs.aF) (cS ⟨xS (by omega),rfl⟩)))))),?_⟩;rintro _ _ ⟨rfl,hw⟩ _;subst hw;refine aC (λ dO=>?_) (λ dO=>?_)
 ·have sR:F3 m cell=false:=by unfold F3;rw[decide_eq_false_iff_not];omega
  rw[sR];exact⟨rfl,hs.aF⟩
 refine aD (aA rM (bM eg (c2.ext hs.aF) ?_));obtain⟨Ck,pE⟩:=gx (m.l) (i:=(cell).toNat) (by omega);refine aO cM hL (by omega) pE (λ _ wH=>aE bL (wH.ext hs.aF) ?_);have sR:F3 m cell=true:=by unfold F3;rw[decide_eq_true_eq];omega
 rw[sR,List.getD_eq_getElem?_getD,pE];exact⟨rfl,hs.aF⟩
theorem C144(p:Nat)(m:Mem)(w:World)(hm:xY w p m)(hk:vV m):CR 144 [(.pointer (some ⟨p,0,none⟩))] w (λ v w'=>lL (bG v m.l) w w'):=by
 have L9:=hm;obtain⟨ov,fv,lv,kv,pm,c0,c1,c2,c3,c4,hO,NB,hL,hKp,hP⟩:=hm;have Ma:=hk.fl;have JG:=hk.L8;have Cy:=hk.ll;have FJ:=hk.kl;have Nw:=hk.lb;have hs:=St.start w;refine eS Tryz.func144 ?_;exact aD (aA rM (bM eg (c2.ext hs.aF) (ek SW hs (C83 _ _ _ (hL.ext hs.aF) (by omega)) (λ _ _ _ hs=>hs.fresh))))
theorem C145(p:Nat)(m:Mem)(w:World)(hm:xY w p m)(hk:vV m):CR 145 [(.pointer (some ⟨p,0,none⟩))] w (λ v w'=>lL (bG v m.kept) w w'):=by
 have L9:=hm;obtain⟨ov,fv,lv,kv,pm,c0,c1,c2,c3,c4,hO,NB,hL,hKp,hP⟩:=hm;have Ma:=hk.fl;have JG:=hk.L8;have Cy:=hk.ll;have FJ:=hk.kl;have Nw:=hk.lb;have hs:=St.start w;refine eS Tryz.func145 ?_;exact aD (aA zW (bM eg (c3.ext hs.aF) (ek SW hs (C83 _ _ _ (hKp.ext hs.aF) (by omega)) (λ _ _ _ hs=>hs.fresh))))
theorem C156(p:Nat)(ov fv:Value)(m:Mem)(F:Nat->Prop)(cell n:Int)(w:World)(hF:(iB p ov fv m).p w F)(hK:∀w',gq F w w'->AH ov fv m w')(hk:vV m)(hb:MB m 1000000):CR 156 [(.pointer (some ⟨p,0,none⟩)),.int .i64 cell,.int .i64 n] w (λ v w'=>v=.int .i64 (if F3 m cell=true then 0 else 1)/\mL F (iB p ov fv (fh m cell n)) w w'):=by
 have hs:=St.begin hF;obtain⟨lv,kv,pm,hs⟩:=iB.open hs;have Ma:=hk.fl;have JG:=hk.L8;have Cy:=hk.ll;have FJ:=hk.kl;have Nw:=hk.lb;refine oY Tryz.func156 (pl:=atG) ?_;refine⟨λ jv w'=>jv=.bool (decide (cell<0\/m.l.length<=cell))/\w=w',aQ (aC (λ _=>⟨JX (by omega),rfl⟩) (λ _=>aD (aA rM (aB eg hs.hb rfl (aI cM (hs.p1).dX (cS ⟨xS (by omega),rfl⟩)))))),?_⟩;rintro _ _ ⟨rfl,hw⟩ _;subst hw;refine aC (λ lB=>?_) (λ lB=>?_)
 ·have hs:=hs.p3.p3.p3.p3;have sR:F3 m cell=false:=by unfold F3;rw[decide_eq_false_iff_not];omega
  unfold fh;rw[sR];exact⟨rfl,(iB.shut hs).mut⟩
 have sR:F3 m cell=true:=by unfold F3;rw[decide_eq_true_eq];omega
 refine aD (aA rM (aB eg hs.hb rfl ?_));obtain⟨RU,EX⟩:=gx (m.l) (i:=(cell).toNat) (by omega);refine dM hs.p1 cM (by omega) (by omega) (λ _ LG=>jm _ hs.p1 bL LG (by omega) (λ _ hs=>⟨λ w'=>St w F [iB p ov fv (fh m cell n)] w',aD (aA wk (aB eg hs.p1.hb rfl (aI cM (hK _ hs.aF).1 (aQ (aC (λ jW=>?_) (λ jW=>?_)))))),?_⟩))
 ·refine aD (aA wk (aB eg hs.p1.hb rfl ?_));obtain⟨Lv,Bx⟩:=gx (m.of) (i:=(cell).toNat) (by omega);refine aO cM (hK _ hs.aF).1 (by omega) Bx (λ _ yn=>aE bL (yn) (aD (aA rN (have hs:=hs.drew;aB yj hs.p1.hb rfl (aD (aA rN (aB yj hs.p1.hb rfl ?_)))))));have hbx:=hb Lv;obtain⟨s_x50,hs⟩:=(hs.p3).Lb (k:=Lv);refine⟨_,(hs.p1).Bu Tryz.underlying185 Kh zX,?_⟩;refine pop (N4 _ _) (aX ([(⟨cell,n⟩:j4)]) hs B9 rfl rfl (dI rfl) (λ anT _ hs=>?_));refine⟨aG yj (hs.p4.hb.cell rfl),?_⟩;refine⟨aG yj (hs.p4.hb.cell rfl),?_⟩
  refine⟨(hs.p2).Bu Tryz.underlying185 Kh zX,?_⟩;have Ox:=(hs).dX;refine bI hs.p1 B9 Ox (by simp;omega) (by decide) (λ anU _ hs=>?_);have hs:=hs.p1.drop;refine⟨aG yj (hs.p3.hb.cell rfl),?_⟩;obtain⟨EY,rfl⟩:=(hs).fC;have hs:=hs.p1.p1;refine Lc hs Tryz.underlying185 Kh (λ _ hs=>?_);have hs:=hs.p3.p2.p3;have hwm:fh m cell n={m with l:=m.l.set cell.toNat n,fF:=px m.fF Lv (m.fF Lv++[⟨cell,n⟩])}:=by unfold fh;rw[if_pos sR,if_pos (by omega),List.getD_eq_getElem?_getD,Bx];rfl
  rw[hwm];exact iB.shut (m:={m with l:=_,fF:=_}) hs
 ·have hs:=hs.p3.p3.p2.p3;have hwm:fh m cell n={m with l:=m.l.set cell.toNat n}:=by unfold fh;rw[if_pos sR,if_neg (by omega)]
  rw[hwm];exact iB.shut (m:={m with l:=_,fF:=_}) hs
 intro _ hs _;exact⟨by rw[sR];rfl,hs.mut⟩
def RV(m:Mem)(cut:List Int):Bool:=decide ((cut.length:Int)=fP m.of)&&(List.range cut.length).all λ i=>decide (0<=cut.getD i 0/\cut.getD i 0<=(m.fF i).length)
def pF(m:Mem)(cut:List Int)(k:Nat):List Int:=(List.range k).foldl (λ o (i:Nat)=>nG o ((m.fF i).take (cut.getD i 0).toNat)) m.kept
def fw(m:Mem)(cut:List Int):Option (List Int):=if RV m cut=true then some (pF m cut cut.length)else none
theorem uI(m:Mem)(cut:List Int)(k:Nat):pF m cut (k+1)=nG (pF m cut k) ((m.fF k).take (cut.getD k 0).toNat):=by
 unfold pF;rw[List.range_succ,List.foldl_append];rfl
theorem oP(m:Mem)(cut:List Int):∀k,(pF m cut k).length=m.kept.length
 | 0=>rfl
 | k+1=>by rw[uI,wU,oP]
theorem Mb{m:Mem}{cut:List Int}{k:Nat}{c:Int}(hc:cut[k]?=some c)(h:¬ (0<=c/\c<=(m.fF k).length)):fw m cut=none:=by
 unfold fw;grind[RV,pF]
theorem Mc{m:Mem}{cut:List Int}(h:(cut.length:Int)≠fP m.of):fw m cut=none:=by
 unfold fw RV;grind
theorem G9{m:Mem}{cut:List Int}(h:(cut.length:Int)=fP m.of)(hc:∀(k:Nat) (c:Int),k<cut.length->cut[k]?=some c->0<=c/\c<=(m.fF k).length):fw m cut=some (pF m cut cut.length):=by
 unfold fw;grind[RV,pF]
def EZ(m:Mem)(n:Nat):List Nat:=(List.range n).map fun (i:Nat)=>(m.fF i).length
theorem Ym{m:Mem}{n i:Nat}(h:i<n):(EZ m n)[i]?=some (m.fF i).length:=by
 unfold EZ;rw[List.getElem?_map,List.getElem?_range h];rfl
def my(m:Mem)(kW:List Int):Mem:={m with kept:=kW,l:=kW++m.dV.drop kW.length,fF:=λ _=>[]}
theorem C157(p:Nat)(ov fv:Value)(m:Mem)(F:Nat->Prop)(line:Int)(w:World)(hF:(iB p ov fv m).p w F)(hK:∀w',gq F w w'->AH ov fv m w')(hk:vV m)(hb:MB m 1000000):CR 157 [(.pointer (some ⟨p,0,none⟩)),.int .i64 line] w (λ v w'=>v=.int .i64 (if EW m line=true then 0 else 1)/\mL F (iB p ov fv (nV m line)) w w'):=by
 have hs:=St.begin hF;obtain⟨lv,kv,pm,hs⟩:=iB.open hs;have Ma:=hk.fl;have JG:=hk.L8;have Cy:=hk.ll;have FJ:=hk.kl;have Nw:=hk.lb;refine oY Tryz.func157 (pl:=atH) ?_;refine⟨λ jv w'=>jv=.bool (decide (line<0\/fP m.of<=line))/\St w F [bY p [ov,fv,lv,kv,.map (some pm)],bG lv m.l,bG kv m.kept,qN pm m.fF] w',aQ (aC (λ _=>⟨vb (by first|exact(decide_eq_true (by omega)).symm|exact decide_eq_decide.2 (by omega)),hs⟩) (λ _=>aT aeT hs (C148 _ m _ (xY.mk' hs.hb (hK _ hs.aF) hs.p1.dX hs.p2.dX hs.p3.WD) hk) (λ _ _ hs=>cS ⟨vb (by first|exact(decide_eq_true (by omega)).symm|exact decide_eq_decide.2 (by omega)),hs⟩))),?_⟩
 rintro _ _ ⟨rfl,hs⟩ _;refine aC (λ jI=>?_) (λ jI=>?_)
 ·have hs:=hs.p3.p3.p3.p3;have sR:EW m line=false:=by unfold EW;rw[decide_eq_false_iff_not];omega
  unfold nV;rw[sR];exact⟨rfl,(iB.shut hs).mut⟩
 refine aD (aA rN (aB yj hs.hb rfl ?_));obtain⟨Yl,hs⟩:=(hs.p3).Lb (k:=line);refine⟨_,(hs.p1).Bu Tryz.underlying185 Kh zX,?_⟩;have GH:=hb line;refine aI B9 (hs).dX ?_;have hs:=hs.p3.p3.p4.p4.p4;refine⟨λ mm x w1=>∃k:Nat,x=.int .i64 (k:Int)/\mm=(m.fF line).length-k/\k<=(m.fF line).length/\St w F [bG (Flat.val Yl) (m.fF line),La pm m.fF line Yl,bG kv (nG m.kept ((m.fF line).take k)),bY p [ov,fv,lv,kv,.map (some pm)],bG lv m.l] w1,⟨_,0,rfl,rfl,Nat.zero_le _,hs⟩,?_⟩;rintro mm _ _ ⟨k,rfl,rfl,vD,hs⟩ _;refine aQ (aC (λ mS=>?_) (λ mS=>?_))
 ·obtain⟨iG,mh⟩:=gx ((m.fF line)) (i:=((k:Int)).toNat) (by omega);refine dM hs B9 (by omega) (by omega) (λ _ Ah=>?_);have hpc:=hk.pc line _ (List.mem_of_getElem? mh);refine gD hs QX Ah mh (aM hs QY (λ b_w6 _ hs=>aJ (x:=iG) hs QX rfl rfl (λ _ hs=>aD (aA zW (have hs:=hs.drew;aB eg hs.p4.hb rfl (aA Kw ?_))))));have Tg:=wU ((m.fF line).take k) m.kept;refine aB (v:=.int .i64 ((iG).cell)) bL hs.hb rfl (aA Kx (aB (v:=.int .i64 ((iG).n)) bL hs.hb rfl ?_));obtain⟨uH,oO⟩:=gx ((nG m.kept ((m.fF line).take k))) (i:=((iG).cell).toNat) (by omega)
  exact dM hs.p3 cM (by omega) (by omega) (λ _ wO=>jm _ hs.p3 bL wO (by omega) (λ _ hs=>aK (by omega) (have hs:=(hs.p1.drop.p4.p4.p2.p4).p4;⟨_,by omega,k+1,rfl,rfl,by omega,by rw[G8 (j:=k) mh];exact hs⟩)))
 rw[List.take_of_length_le (by omega)]at hs;refine aD (aA rN (aB yj hs.p3.hb rfl ?_));have hs:=hs.p1.p1.WE;rw[Tl]at hs;refine Ld hs rfl Tryz.underlying185 Kh (λ _ _ hs=>?_);have hs:=hs.p1.p3.p3;have sR:EW m line=true:=by unfold EW;rw[decide_eq_true_eq];omega
 have Pd:nV m line={m with kept:=nG m.kept (m.fF line),fF:=px m.fF line []}:=by unfold nV;rw[if_pos sR]
 rw[Pd,sR];exact⟨rfl,(iB.shut (m:={m with kept:=_,fF:=_}) hs).mut⟩
theorem C150(p:Nat)(m:Mem)(cut:List Int)(cv:Value)(w:World)(hm:xY w p m)(hk:vV m)(hb:MB m 1000000)(hC:dC (λ _=>True) w cv cut)(Yn:cut.length<=1000):CR 150 [(.pointer (some ⟨p,0,none⟩)),cv] w (λ v w'=>(fw m cut=none/\v=.tuple #[.slice none 0 0,.int .i64 1]/\Ext w w')\/∃kW o,fw m cut=some kW/\v=.tuple #[o,.int .i64 0]/\lL (bG o kW) w w'):=by
 have L9:=hm;obtain⟨ov,fv,lv,kv,pm,c0,c1,c2,c3,c4,hO,NB,hL,hKp,hP⟩:=hm;have Ma:=hk.fl;have JG:=hk.L8;have Cy:=hk.ll;have FJ:=hk.kl;have Nw:=hk.lb;have hs:=St.start w;refine eS Tryz.func150 ?_;refine aI cM (hC.ext hs.aF) (aT aeT hs (C148 _ m _ (L9.ext hs.aF) hk) (λ w1 he hs=>bV (aC (λ _=>.inl ⟨Mc (by omega),rfl,hs.aF⟩) (λ ji=>ek al2 hs (C145 _ m _ (L9.ext hs.aF) hk) (λ x17 _ cO hs=>aI cM (hC.ext hs.aF) ?_)))));refine⟨λ mm x w1=>∃k:Nat,x=.int .i64 (k:Int)/\mm=cut.length-k/\k<=cut.length/\(∀(i:Nat) (c:Int),i<k->cut[i]?=some c->0<=c/\c<=(m.fF i).length)/\St w aY [bG x17 (pF m cut k)] w1,⟨_,0,rfl,rfl,Nat.zero_le _,λ _ _ h=>absurd h (by omega),hs⟩,?_⟩
 rintro mm _ w3 ⟨k,rfl,rfl,vD,ki,hs⟩ _;refine aQ (aC (λ kD=>?_) (λ _=>.inr ⟨_,_,G9 (by omega) (λ i c _ hc=>ki i c (by omega) hc),rfl,by rw[show cut.length=k from by omega];exact hs.fresh⟩));obtain⟨qh,kI⟩:=gx (cut) (i:=((k:Int)).toNat) (by omega);refine aO cM hC (by omega) kI (λ _ qi=>aE bL (qi.ext hs.aF) ⟨λ jv w'=>jv=.bool (decide (qh<0\/(m.fF k).length<qh))/\w3=w',aQ (aC (λ _=>⟨JX (by omega),rfl⟩) (λ _=>aD (aA rN (bM yj (c4.ext hs.aF) (GN hP hs.aF Tryz.underlying185 Kh zX (λ _ wO=>aI B9 (wO.ext hs.aF) (cP ⟨xS (by omega),rfl⟩))))))),?_⟩)
 rintro _ _ ⟨rfl,hw⟩ _;subst hw;refine aC (λ _=>.inl ⟨Mb (k:=k) kI (by omega),rfl,hs.aF⟩) (λ oK=>aD (aA rN (bM yj (c4.ext hs.aF) (GN hP hs.aF Tryz.underlying185 Kh zX (λ afY vH=>?_)))));have hbk:=hb k;have Nv:((m.fF k).take qh.toNat).length<=(m.fF k).length:=by rw[List.length_take];omega
 refine jH B9 (vH.ext hs.aF) (by omega) (by omega) (λ apv O1=>?_);have IQ:=O1 _ vH;refine aI B9 (IQ.ext hs.aF) ?_;refine⟨λ mm x w1=>∃j:Nat,x=.int .i64 (j:Int)/\mm=((m.fF k).take qh.toNat).length-j/\j<=((m.fF k).take qh.toNat).length/\St w aY [bG x17 (nG (pF m cut k) (((m.fF k).take qh.toNat).take j))] w1,⟨_,0,rfl,rfl,Nat.zero_le _,hs⟩,?_⟩;rintro mm _ _ ⟨j,rfl,rfl,hj,hs⟩ _;refine aQ (aC (λ Rl=>?_) (λ Rl=>?_))
 ·obtain⟨Eu,vg⟩:=gx ((((m.fF (k:Int))).take (qh).toNat)) (i:=((j:Int)).toNat) (by omega);refine aO B9 IQ (by omega) vg (λ _ Ly=>?_);have hpc:=hk.pc k _ (List.mem_of_mem_take (List.mem_of_getElem? vg));refine aE QX (Ly.ext hs.aF) (aM hs QY (λ b_w10 _ hs=>aJ (x:=Eu) hs QX rfl rfl (λ _ hs=>aA Kw ?_)));have Tg:=wU (((m.fF k).take qh.toNat).take j) (pF m cut k);have hil:=oP m cut k;refine aB (v:=.int .i64 ((Eu).cell)) bL hs.hb rfl (aA Kx (aB (v:=.int .i64 ((Eu).n)) bL hs.hb rfl ?_));obtain⟨e_x56,awy⟩:=gx ((nG (pF m cut k) (((m.fF k).take qh.toNat).take j))) (i:=((Eu).cell).toNat) (by omega)
  exact dM hs.p1 cM (by omega) (by omega) (λ _ Yo=>jm _ hs.p1 bL Yo (by omega) (λ _ hs=>aK (by omega) (have hs:=(hs.p1).drop;⟨_,by omega,j+1,rfl,rfl,by omega,by rw[G8 (j:=j) vg];exact hs⟩)))
 rw[List.take_of_length_le (i:=j) (by omega)]at hs;refine aK (by omega) ⟨_,by omega,k+1,rfl,rfl,by omega,λ i c hi hc=>?_,?_⟩
 ·by_cases e:i=k
  ·subst e;obtain rfl:=Option.some.inj (hc.symm.trans kI);omega
  exact ki i c (by omega) hc
 rw[uI,List.getD_eq_getElem?_getD,show cut[k]?=some qh from kI];exact hs
theorem C86(p:Nat)(ov fv:Value)(m:Mem)(F:Nat->Prop)(cut:List Int)(cv:Value)(w:World)(hF:(iB p ov fv m).p w F)(hK:∀w',gq F w w'->AH ov fv m w')(hk:vV m)(hb:MB m 1000000)(hC:∀w',gq F w w'->dC (λ _=>True) w' cv cut)(Yn:cut.length<=1000):CR 86 [(.pointer (some ⟨p,0,none⟩)),cv] w (λ v w'=>(fw m cut=none/\v=.int .i64 1/\mL F (iB p ov fv m) w w')\/∃kW,fw m cut=some kW/\v=.int .i64 0/\mL F (iB p ov fv (my m kW)) w w'):=by
 have hs:=St.begin hF;obtain⟨lv,kv,pm,hs⟩:=iB.open hs;have Ma:=hk.fl;have JG:=hk.L8;have Cy:=hk.ll;have FJ:=hk.kl;have Nw:=hk.lb;refine oY Tryz.func86 (pl:=P86) ?_;refine dN al3 (C150 _ m cut _ _ (xY.mk' hs.hb (hK _ hs.aF) hs.p1.dX hs.p2.dX hs.p3.WD) hk hb (hC _ hs.aF) (by omega)) ?_;rintro v_x10 _ aiH
 rcases aiH with⟨si,rfl,he⟩|⟨I2,o_x10,si,rfl,cO⟩
 ·have hs:=hs.ext he;exact aN rfl (aN rfl (bV (lQ (by decide) (have hs:=hs.p3.p3.p3.p3;.inl ⟨si,rfl,(iB.shut hs).mut⟩))))
 have hs:=hs.made cO;refine aN rfl (aN rfl (bV (fE (by decide) (aD (aA zW (aS hs.p1 eg (dI rfl) ((hs).dX.one) (λ _ hs=>aD (aA rM (have hs:=hs.drew;aB eg hs.hb rfl (aD (aA VF (aB eg hs.hb rfl ?_))))))))))));refine Le hs.p2 cM (hK _ hs.aF).2 (by omega) (λ _ hs=>aD (aA rM (aB eg hs.p1.hb rfl (Le hs cM (hs.p2).dX (by rw[List.length_append,List.length_drop];have hil:I2.length=m.of.length:=(by unfold fw at si;split at si<;>simp at si;rw[<- si,oP];exact FJ);omega) (λ _ hs=>Aq (α:=j4) hs (λ b_x36 _ hs=>aD (aA rN (aS hs.p2 yj (dI rfl) (rfl) (λ _ hs=>?_)))))))))
 have hs:=((hs.p4.drop.p4.drop.p1.p3).p3).p3;have hil:I2.length=m.of.length:=by unfold fw at si;split at si<;>simp at si;rw[<- si,oP];exact FJ
 rw[show m.l.drop m.dV.length=[]from List.drop_eq_nil_of_le (by omega),List.append_nil]at hs;exact .inr ⟨_,si,rfl,(iB.shut (m:=my m I2) hs).mut⟩
def I3(of:List Int)(stays:Int)(dV:List Int):Mem:=⟨of.take stays.toNat,dV,dV,dV.take stays.toNat,λ _=>[]⟩
def psM(m:Mem):List Nat:=EZ m (fP m.of).toNat
theorem adl(m:Mem):(psM m).length=(fP m.of).toNat:=by unfold psM EZ;simp
theorem rz{m:Mem}(hk:vV m):0<=fP m.of:=by
 unfold fP;split
 ·omega
 rename_i h
 have hx:m.of.getD (m.of.length-1) 0∈m.of:=by grind
 have:=(hk.ofr _ hx).1
 omega
theorem C53(of dV:List Int)(stays:Int)(av bv:Value)(w:World)(hO:dC (λ _=>True) w av of)(NB:dC (λ _=>True) w bv dV)(hlen:of.length=dV.length)(Ma:of.length<=20)(iL:0<=stays/\stays<=of.length)(FY:∀(k:Nat) (n:Int),(k:Int)<stays->of[k]?=some n->(n=tj of k\/(0<k/\n=tj of k-1))/\-10<=n/\n<=100):CR 53 [av,.int .i64 stays,bv] w (λ v w'=>∃(p:Nat) (ov fv:SV),v=.tuple #[.pointer (some ⟨p,0,none⟩),.int .i64 0]/\lL (sep (bG (Flat.val ov) (of.take stays.toNat)) (sep (bG (Flat.val fv) dV) (iB p (Flat.val ov) (Flat.val fv) (I3 of stays dV)))) w w'):=by
 have hs:=St.start w;refine eS Tryz.func53 ?_;refine⟨λ jv w'=>jv=.bool (decide (of.length≠dV.length\/20<of.length\/stays<0\/of.length<stays))/\w=w',aI cM (hO.ext hs.aF) (aI cM (NB.ext hs.aF) (bV (aC (λ _=>⟨JX (by omega),rfl⟩) (λ _=>aI cM (hO.ext hs.aF) (cP (aC (λ _=>⟨JX (by omega),rfl⟩) (λ _=>aQ (aC (λ _=>⟨JX (by omega),rfl⟩) (λ _=>aI cM (hO.ext hs.aF) (cP ⟨xS (by omega),rfl⟩)))))))))),?_⟩;rintro _ w1 ⟨rfl,hw⟩ _;subst hw;refine aC (λ lT=>absurd lT (by omega)) (λ lT=>jH cM (hO.ext hs.aF) (by omega) (by omega) (λ s_x34 aiI=>?_));have Yp:=aiI _ hO
 refine aI cM (Yp.ext hs.aF) ?_;refine⟨λ mm l x w1=>∃(k:Nat) (last:Int),l=.int .i64 last/\x=.int .i64 (k:Int)/\mm=(of.take stays.toNat).length-k/\k<=(of.take stays.toNat).length/\last=tj of k-1/\-200<=last/\last<=200/\St w aY [] w1,⟨_,0,-1,rfl,rfl,rfl,Nat.zero_le _,rfl,by omega,by omega,hs⟩,?_⟩;rintro mm _ _ w2 ⟨k,last,rfl,rfl,rfl,vD,hlast,hl7,hl8,hs⟩ _;have Nv:(of.take stays.toNat).length=stays.toNat:=by rw[List.length_take];omega
 refine aQ (aC (λ oK=>?_) (λ oK=>?_))
 ·obtain⟨wV,vj⟩:=gx (((of).take (stays).toNat)) (i:=((k:Int)).toNat) (by omega);refine aO cM Yp (by omega) vj (λ _ wI=>?_)
  have aiJ:of[k]?=some wV:=by
   have h0:=vj;rw[List.getElem?_take]at h0
   split at h0
   ·exact h0
   ·cases h0
  obtain⟨hl1,FH,hl3⟩:=FY k _ (by omega) aiJ;refine aE bL (wI.ext hs.aF) ⟨λ jv w'=>jv=.bool (decide (wV≠last+1/\(k=0\/wV≠last)))/\w2=w',aK (by omega) (bV (aC (λ _=>aH (aC (λ _=>⟨JX (by omega),rfl⟩) (λ _=>bV ⟨xS (by omega),rfl⟩))) (λ _=>⟨jvF (by omega),rfl⟩))),?_⟩;rintro _ _ ⟨rfl,hw⟩ _;subst hw;refine aC (λ Cd=>absurd Cd (by have:=FY k wV (by omega) aiJ;simp;omega)) (λ Cd=>?_);have hws:tj of (k+1)=wV+1:=by unfold tj;rw[if_neg (by omega),Nat.add_sub_cancel,List.getD_eq_getElem?_getD,aiJ];rfl
  exact aK (by omega) ⟨_,by omega,k+1,wV,rfl,rfl,rfl,by omega,by omega,by omega,by omega,hs⟩
 refine jH cM (hO.ext hs.aF) (by omega) (by omega) (λ s_x58 aiK=>?_);have aiL:=aiK _ hO;refine ek SW hs (C83 _ _ _ (aiL.ext hs.aF) (by first|omega|(rw[List.length_take];omega))) (λ x59 _ cO hs=>ek SW hs (C83 _ _ _ (NB.ext hs.aF) (by first|omega|(rw[List.length_take];omega))) (λ x61 _ cO hs=>ek SW hs (C83 _ _ _ (NB.ext hs.aF) (by first|omega|(rw[List.length_take];omega))) (λ x63 _ cO hs=>Aq (α:=j4) hs (λ b_x64 _ hs=>?_))));obtain⟨aiM,rfl⟩:=(hs.p3).fC;obtain⟨aiN,rfl⟩:=(hs.p2).fC;obtain⟨awz,rfl⟩:=(hs.p1).fC;refine pop (DK _ _ _ _ _ _ _ _ _ _) (nk hs (λ apW _ hs=>jH cM (NB.ext hs.aF) (by omega) (by omega) (λ agc aiO=>?_)))
 have aiP:=aiO _ NB;exact ek SW hs (C83 _ _ _ (aiP.ext hs.aF) (by first|omega|(rw[List.length_take];omega))) (λ _ _ _ hs=>aD (aA zW (aS hs.p1 eg (dI rfl) ((hs).dX.one) (λ _ hs=>have hs:=iB.shut (m:=I3 of stays dV) hs.p4.p5.p4.p4.p5.p5;⟨apW,aiM,aiN,rfl,(St.join (St.join hs.p2).p1).fresh⟩))))
def adm:List Int->Int->Int
 | [],n=>n
 | c::cs,n=>adm cs (A1 (A1 (n*10000)+c))
def qp(l:List Int)(k:Nat):Int:=adm (l.take k) 0
theorem Ha:∀(l:List Int) (c n:Int),adm (l++[c]) n=A1 (A1 (adm l n*10000)+c)
 | [],_,_=>rfl
 | x::l,c,n=>Ha l c _
theorem E0{l:List Int}{k:Nat}{c:Int}(h:l[k]?=some c):qp l (k+1)=A1 (A1 (qp l k*10000)+c):=by
 unfold qp;rw[List.take_add_one,h];exact Ha _ _ _
def mV(p q:cA):Bool:=decide (q.kind=p.kind)&&decide (q.t=p.t)&&decide (q.i=p.i)&&decide (p.cut.length=0)
theorem C154(sv fv:Value)(xs:List cA)(φ:cA->Prop)(g:cA->Bool)(w:World)(hL:DL w sv xs)(hf:tf Tryz.prog w fv φ g)(hφ:∀x∈xs,φ x)(hn:xs.length<=1073741824):CR 154 [sv,fv] w (λ v w'=>v=.int .i64 (rT g xs)/\Ext w w'):=by
 obtain⟨g0,first,cap,rfl,oZ,jT⟩:=hf;have hs:=St.start w;refine eS Tryz.func154 ?_;obtain⟨apX,agd,age⟩:=(hL).open;have hn127:=age.1;refine aI lY (agd.ext hs.aF) ?_;refine⟨λ m x w1=>∃k:Nat,x=.int .i64 (k:Int)/\m=xs.length-k/\k<=xs.length/\(∀y∈xs.take k,g y=false)/\St w aY [] w1,⟨_,0,rfl,rfl,Nat.zero_le _,by simp,hs⟩,?_⟩;rintro m _ w1 ⟨k,rfl,rfl,hk,eD,hs⟩ _;refine aQ (aC (λ jj=>?_) (λ _=>⟨congrArg (Value.int .i64) (iU (by rw[List.take_of_length_le (by omega)]at eD;exact eD)).symm,hs.aF⟩));obtain⟨gV,dw⟩:=gx apX (i:=((k:Int)).toNat) (by omega);obtain⟨yr,iR⟩:=gx (xs) (i:=((k:Int)).toNat) (by omega)
 obtain⟨TG,rfl,TH⟩:=age.2 _ _ _ dw iR;refine aO lY agd (by omega) dw (λ _ gA=>aE qC (gA.ext hs.aF) (gK oZ (jT _ yr w1 hs.aF ⟨TG,rfl,(TH.ext hs.aF)⟩ (hφ _ (List.mem_of_getElem? iR))) ?_));rintro _ _ ⟨rfl,he⟩;have hs:=hs.ext he;exact aW (λ dO=>⟨congrArg (Value.int .i64) (lS eD iR dO).symm,hs.aF⟩) (λ dO=>aK (by omega) ⟨_,by omega,k+1,rfl,rfl,by omega,dR eD iR dO,hs⟩)
theorem C89(sv fv:Value)(xs:List cA)(φ:cA->Prop)(g:cA->Bool)(w:World)(hL:DL w sv xs)(hf:tf Tryz.prog w fv φ g)(hφ:∀x∈xs,φ x)(hn:xs.length<=1073741824):CR 89 [sv,fv] w (λ v w'=>v=.bool (xs.any g)/\Ext w w'):=by
 have hs:=St.start w;refine eS Tryz.func89 ?_;exact aT al5 hs (C154 _ _ _ _ _ _ (hL.ext hs.aF) (hf.ext hs.aF) hφ (by omega)) (λ _ _ hs=>cS ⟨vb (kF _ _),hs.aF⟩)
def jy(m:Mem)(c:Int):Int:=if F3 m c=true then m.l.getD c.toNat 0 else 0
theorem agf(p:Nat)(m:Mem)(c:Int)(w:World)(hm:xY w p m)(hk:vV m):CR 227 [.pointer (some ⟨p,0,none⟩),.int .i64 c] w (λ v w'=>v=.tuple #[.int .i64 (jy m c),.int .i64 (if F3 m c=true then 0 else 1)]/\Ext w w'):=C227 p m c w hm hk
theorem Hb(m:Mem)(c n:Int):(fh m c n).of=m.of:=by unfold fh;grind
theorem tO(m:Mem)(c n:Int):(fh m c n).dV=m.dV:=by unfold fh;grind
theorem adn(m:Mem)(c:Int):(nV m c).of=m.of:=by unfold nV;grind
theorem Md(m:Mem)(c:Int):(nV m c).dV=m.dV:=by unfold nV;grind
theorem AH.write{ov fv:Value}{m:Mem}{w:World}{c n:Int}(h:AH ov fv m w):AH ov fv (fh m c n) w:=by grind[AH,fh]
theorem AH.out{ov fv:Value}{m:Mem}{w:World}{c:Int}(h:AH ov fv m w):AH ov fv (nV m c) w:=by grind[AH,nV]
def jM(m:Mem)(x:bH):Mem:=if x.kind=3 then fh m x.cell x.n else if x.kind=7 then m else nV m x.line
def sN(t:Int)(x:bH):bU:=if x.kind=3 then⟨12,t,x.cell,x.n,0⟩else if x.kind=7 then⟨14,t,0,0,0⟩else⟨13,t,x.line,0,0⟩
end Go.Proofs.YtpdlpabnlkofmaaGreatDoor
namespace Go.Fw
def re(F:Nat->Prop)(w0 w':World):Prop:=∀b,F b->w'.heap[b]?=w0.heap[b]?
section
variable {α σ:Type}[Flat σ] [D:Deep α σ] {w w0:World}{A F:Nat->Prop}{L:List HP}{v:Value}{xs:List α}{ts us:List σ}
theorem St.Yq{Φ:World->Prop}(hs:St w0 A (Fw.fk Φ::L) w):∃F,St w0 A (Fw.fk (re F w)::L) w/\∀w',re F w w'->Φ w':=by
 obtain⟨U,F,U',g1,g2,g3,g4,g5⟩:=hs.tF
 exact⟨F,⟨hs.aF,U,F,U',⟨λ w' h=>h,g1.2⟩,g2,g3,g4,g5⟩,λ w' h=>g1.1 w' h⟩
theorem re.refl(F:Nat->Prop)(w:World):re F w w:=λ _ _=>rfl
theorem Me(inj:∀x y:σ,Flat.enc x=Flat.enc y->x=y):∀{ts us:List σ},ts.length=us.length->flat ts=flat us->ts=us
 | [],[],_,_=>rfl
 | t::ts,u::us,hl,h=>by
  rw[ku,ku]at h
  have:=List.append_inj h (by rw[Flat.len,Flat.len])
  rw[inj _ _ this.1,Me inj (by grind) this.2]
 | [],_::_,hl,_=>by simp at hl
 | _::_,[],hl,_=>by simp at hl
theorem dC.func{S S':Nat->Prop}(inj:∀x y:σ,Flat.enc x=Flat.enc y->x=y)(h:dC S w v ts)(h':dC S' w v us):ts=us:=by
 obtain⟨a,cap,rfl,hc,h3⟩:=h
 obtain⟨a',DD,hv,hc',h3'⟩:=h'
 simp only[Value.slice.injEq]at hv
 obtain⟨rfl,hl,rfl⟩:=hv
 refine Me inj hl (List.ext_getElem? λ j=>?_)
 have sS:(flat ts).length=(flat us).length:=by rw[dG,dG,hl]
 by_cases hj:j<(flat ts).length
 ·have hj':j<(flat us).length:=by omega
  rcases h3 with⟨rfl,_⟩|⟨b,o,rfl,_,h5⟩
  ·grind
  rcases h3' with⟨rfl,_⟩|⟨b',o',ha,_,h5'⟩
  ·grind
  simp only[Option.some.injEq,Addr.mk.injEq,and_true]at ha
  obtain⟨rfl,rfl⟩:=ha
  have c1:=h5 j _ (List.getElem?_eq_getElem hj)
  have c2:=h5' j _ (List.getElem?_eq_getElem hj')
  unfold Cell at c1 c2
  grind
 grind
theorem re.rd(h:∀w',re F w w'->DL w' v xs)(hr:dC (λ _=>True) w v ts)(hn:ts.length=xs.length):∀w',re F w w'->dC (λ _=>True) w' v ts:=by
 intro w' hw
 have Ct:=hr
 obtain⟨a,cap,rfl,hc,h3⟩:=hr
 rcases h3 with⟨h3,h4⟩|⟨b,o,rfl,h4,h5⟩
 ·grind[dC]
 cases ts with
 | nil=>exact⟨_,cap,rfl,hc,.inr ⟨b,o,rfl,λ h=>absurd rfl h,λ j c hj=>by simp[l8]at hj⟩⟩
 | cons t ts=>
  by_cases hF:F b
  ·exact⟨_,cap,rfl,hc,.inr ⟨b,o,rfl,λ _=>trivial,λ j c hj=>(h5 j c hj).of_eq (hw b hF)⟩⟩
  ·exfalso
   have h6:DL (ChangeMaps.setBlock w b (.map #[] 0)) (.slice (some ⟨b,o,none⟩) (t::ts).length cap) xs:=h _ λ b' hb'=>by
    simp only[ChangeMaps.setBlock];grind
   obtain⟨us,⟨a',DD,hv,_,h7⟩,hul,_⟩:=h6
   simp only[Value.slice.injEq]at hv
   obtain⟨rfl,hl,rfl⟩:=hv
   have Cw:0<(flat us).length:=by rw[dG,<- hl];exact Nat.mul_pos (by simp) (Flat.pos (α:=σ))
   rcases h7 with⟨rfl,_⟩|⟨b',o',ha,_,h8⟩
   ·simp at hl
   ·simp only[Option.some.injEq,Addr.mk.injEq,and_true]at ha
    obtain⟨rfl,rfl⟩:=ha
    have B6:=h8 0 _ (List.getElem?_eq_getElem Cw)
    have hb:=(h5 0 _ (List.getElem?_eq_getElem (by rw[dG];exact Nat.mul_pos (by simp) (Flat.pos (α:=σ))))).lt
    unfold Cell World.cell? at B6
    dsimp only at B6
    rw[jZ _ hb]at B6
    simp at B6
theorem re.fix(inj:∀x y:σ,Flat.enc x=Flat.enc y->x=y)(h:∀w',re F w w'->DL w' v xs):∃ts:List σ,ts.length=xs.length/\∀w',re F w w'->dC (λ _=>True) w' v ts/\jh ts xs w':=by
 obtain⟨ts,hr,hd⟩:=(h w (re.refl F w)).open
 refine⟨ts,hd.1,λ w' hw=>?_⟩
 have h1:=re.rd h hr hd.1 w' hw
 obtain⟨us,hr',hd'⟩:=(h w' hw).open
 rw[dC.func inj h1 hr']at *
 grind
end
section
variable {P:Program}{T:Nat}{cx cy:Bool}{a b:Int}{K:Value->Prop}
theorem Yr(h:0<=a-b/\a-b<=255)(k:K (.int .u8 (a-b))):eN P (jz .sub T cx cy (.int .u8 a) (.int .u8 b)) K:=
 ⟨_,(show pr P (jz .sub T cx cy (.int .u8 a) (.int .u8 b))=some (.int .u8 (a-b))from by
  show some (Value.int .u8 (IntKind.u8.wrap (a-b)))=_
  have:IntKind.u8.wrap (a-b)=a-b:=by
   unfold IntKind.wrap;simp[IntKind.bits,IntKind.signed];omega
  rw[this]),k⟩
theorem TI{src dst:TypeId}(h1:P.underlying src=some (.int .u8))(h2:P.underlying dst=some (.int .i64))(h:0<=a/\a<=255)(k:K (.int .i64 a)):eN P (convert src dst (.int .u8 a)) K:=by
 refine⟨_,?_,k⟩
 unfold convert
 simp only[cX,cZ h1,cZ h2,Option.bind_some]
 show some (Value.int .i64 (IntKind.i64.wrap a))=_
 rw[IntWalk.i64_in _ (by omega)]
end
end Go.Fw
namespace Go.Proofs.YtpdlpabnlkofmaaGreatDoor
open Go.Fw
abbrev PD:=List (Bk×Bool)
def jl(b:Bk)(e:Bool)(p:PD):PD:=match b with
 | .nil=>p
 | .cons x c d r=>(.cons x c d r,e)::p
def gn:PD->PD
 | (.cons _ _ _ r,_)::p=>jl r false p
 | (.nil,_)::p=>p
 | []=>[]
def oQ:PD->Option (bN×Bk×Bk)
 | (.cons x a b _,_)::_=>some (x,a,b)
 | _=>none
def mz(x:bN)(a:Bk)(p:PD):PD:=if x.n=0 then gn p else jl a false ((.cons {x with n:=x.n-1} a .nil .nil,true)::gn p)
def kc:PD->PD
 | []=>[]
 | (_,e)::p=>if e=true then p else kc p
structure jP where
 names:List ByteArray
 dL:List Int
 cD:PD
 fault:Int
 buf:List bH
def eF(t:jP)(l:List bX):Int×Bool:=if l.length=0 then(0,true)else((pA t.names t.dL l).1,decide ((pA t.names t.dL l).2=0))
def oR(t:jP)(s:ByteArray)(n:Int):jP:={t with dL:=t.dL.set (cU t.names s).toNat n}
def qq(t:jP)(x:bN)(a b:Bk)(n:Int):jP×Bool:=
 if x.kind=1 then({oR t x.eC n with cD:=gn t.cD},true)
 else if x.kind=11 then({t with cD:=jl (if n=0 then b else a) false (gn t.cD)},true)
 else if x.kind=12 then({t with cD:=mz x a t.cD},true)
 else if x.kind=13 then({t with cD:=kc t.cD},true)
 else if x.kind=14 then(if n=0 then({t with fault:=1},false)else({t with cD:=gn t.cD},true))
 else(t,false)
def qt(t:jP):jP×Bool:=match oQ t.cD with
 | none=>(t,false)
 | some (x,a,b)=>if (eF t x.e).2=true/\(eF t x.f).2=true then qq t x a b (eF t x.e).1 else({t with fault:=2},false)
def sO:Nat->jP->Option jP
 | 0,_=>none
 | n+1,t=>if (qt t).2=true then sO n (qt t).1 else some (qt t).1
def lH:Bk->Nat
 | .nil=>0
 | .cons x a b r=>(if x.kind=12 then x.n.toNat*(lH a+1)else lH a+lH b)+lH r+1
def gM(p:PD):Nat:=(p.map λ q=>lH q.1).sum
theorem pG(q:Bk×Bool)(p:PD):gM (q::p)=lH q.1+gM p:=by simp[gM]
def CD(φ:bN->Prop):Bk->Prop
 | .nil=>True
 | .cons x a b r=>φ x/\CD φ a/\CD φ b/\CD φ r
theorem TJ{φ:bN->Prop}:∀t:Bk,CD φ t↔∀x∈t.flat,φ x:=by
 intro t
 induction t with
 | nil=>simp[CD,Bk.flat]
 | cons x a b r Is It ihr=>
  simp only[CD,Bk.flat,Is,It,ihr,List.mem_cons,List.mem_append]
  grind
structure E1(φ:bN->Prop)(p:PD):Prop where
 ne:∀q∈p,q.1≠.nil
 st:∀q∈p,q.1.str
 al:∀q∈p,CD φ q.1
section
variable {φ:bN->Prop}{p:PD}{b:Bk}{e:Bool}
theorem E1.tail{q:Bk×Bool}(h:E1 φ (q::p)):E1 φ p:=⟨λ q hq=>h.ne q (List.mem_cons_of_mem _ hq),λ q hq=>h.st q (List.mem_cons_of_mem _ hq),λ q hq=>h.al q (List.mem_cons_of_mem _ hq)⟩
theorem E1.push(h:E1 φ p)(hs:b.str)(ha:CD φ b):E1 φ (jl b e p):=by
 cases b with
 | nil=>exact h
 | cons x c d r=>
  refine⟨?_,?_,?_⟩<;>intro q hq<;>rcases List.mem_cons.1 hq with rfl|hq
  ·intro hh;cases hh
  ·exact h.ne q hq
  ·exact hs
  ·exact h.st q hq
  ·exact ha
  ·exact h.al q hq
theorem E1.pop(h:E1 φ p):E1 φ (gn p):=by
 match p,h with
 | [],h=>exact h
 | (.nil,_)::p,h=>exact h.tail
 | (.cons x a b r,_)::p,h=>
  have hs:=h.st _ (List.mem_cons_self ..)
  have ha:=h.al _ (List.mem_cons_self ..)
  exact h.tail.push hs.2.2.2.2.2.2 ha.2.2.2
theorem E1.leave:∀{p:PD},E1 φ p->E1 φ (kc p)
 | [],h=>h
 | (_,e)::p,h=>by
  unfold kc;split
  ·exact h.tail
  ·exact h.tail.leave
theorem Hc{x:bN}{a b:Bk}(h:oQ p=some (x,a,b)):∃r e p',p=(.cons x a b r,e)::p':=by
 match p,h with
 | (.cons y c d r,e)::p',h=>cases h;grind
theorem Hd(hp:E1 φ p)(h:oQ p=none):p=[]:=by
 match p,hp,h with
 | [],_,_=>rfl
 | (.nil,_)::_,hp,_=>exact absurd rfl (hp.ne _ (List.mem_cons_self ..))
theorem sj:gM (jl b e p)=lH b+gM p:=by
 cases b with
 | nil=>simp[jl,lH]
 | cons x c d r=>exact pG _ _
theorem Mf:∀p:PD,gM (kc p)<=gM p
 | []=>Nat.le_refl _
 | (b,e)::p=>by
  have:=Mf p
  grind[gM,kc]
theorem TK(h:b≠.nil):1<=lH b:=by
 cases b with
 | nil=>grind
 | cons x c d r=>unfold lH;omega
theorem C7(h:E1 φ p):p.length<=gM p:=by
 induction p with
 | nil=>simp
 | cons q p ih=>
  have:=TK (h.ne q (List.mem_cons_self ..))
  have:=ih h.tail
  rw[pG,List.length_cons];omega
theorem sm{x:bN}{a b r:Bk}:lH (.cons x a b r)=(if x.kind=12 then x.n.toNat*(lH a+1)else lH a+lH b)+lH r+1:=rfl
theorem Pe{x:bN}{a b r:Bk}{p':PD}(h:p=(.cons x a b r,e)::p'):gM (gn p)+1<=gM p:=by
 subst h
 show gM (jl r false p')+1<=_
 rw[sj,pG,sm];omega
end
structure sn(φ:bN->Prop)(t:jP):Prop where
 p:E1 φ t.cD
 rl:t.dL.length=t.names.length
 nb:t.names.length<=1000
 bl:t.buf.length<=1000
 cl:gM t.cD<=10000
structure TL(cs ls ns:List ByteArray)(x:bN):Prop where
 k:1<=x.kind/\x.kind<=14
 e:x.e.length<=1000/\x.f.length<=1000
 n:x.kind=12->0<=x.n/\x.n<=1000
 el:¬ x.kind=11->x.eo<=0
 rg:x.kind=1\/x.kind=2\/x.kind=4->0<=cU ns x.eC
 cl:x.kind=2\/x.kind=3\/x.kind=4->0<=cU cs x.name
 lk:x.kind=9\/x.kind=10->0<=cU ls x.name
 nm:(∀y∈x.e,y.name.size<=1000)/\∀y∈x.f,y.name.size<=1000
abbrev xI(cs ls:List ByteArray)(t:jP):Prop:=sn (TL cs ls t.names) t
section
variable {φ:bN->Prop}{cs ls:List ByteArray}{t t' tR:jP}{x:bN}{a b:Bk}{n:Int}{k:Nat}
theorem sn.cD{p:PD}(h:sn φ t)(hp:E1 φ p)(hc:gM p<=gM t.cD):sn φ {t with cD:=p}:=⟨hp,h.rl,h.nb,h.bl,Nat.le_trans hc h.cl⟩
theorem sn.flt(h:sn φ t)(n:Int):sn φ {t with fault:=n}:=⟨h.p,h.rl,h.nb,h.bl,h.cl⟩
theorem sn.set(h:sn φ t)(s:ByteArray)(n:Int):sn φ (oR t s n):=⟨h.p,by simp[oR,h.rl],h.nb,h.bl,h.cl⟩
theorem sn.top(h:sn φ t)(ht:oQ t.cD=some (x,a,b)):φ x/\a.str/\b.str/\CD φ a/\CD φ b/\x.body=a.len/\x.eo=b.len/\a.len<=40/\∃r e p,t.cD=(.cons x a b r,e)::p/\r.str/\CD φ r:=by
 obtain⟨r,e,p,hp⟩:=Hc ht
 have h1:=h.p
 rw[hp]at h1
 obtain⟨g1,g2,g3,g4,g5,g6,g7⟩:=h1.st _ (List.mem_cons_self ..)
 obtain⟨k1,k2,k3,k4⟩:=h1.al _ (List.mem_cons_self ..)
 grind
theorem ado(h:xI cs ls t)(ht:oQ t.cD=some (x,a,b)):xI cs ls (qq t x a b n).1/\(qq t x a b n).1.names=t.names/\((qq t x a b n).2=true->gM (qq t x a b n).1.cD+1<=gM t.cD):=by
 obtain⟨hx,sa,sb,aa,ab,hb,he,Tg,r,e,p,hp,sr,ar⟩:=h.top ht
 have CE:=h.p.pop
 have nH:=Pe (r:=r) hp
 have hcp:gM t.cD=lH (.cons x a b r)+gM p:=by rw[hp,pG]
 have hpp:gn t.cD=jl r false p:=by rw[hp];rfl
 have cpp:gM (gn t.cD)=lH r+gM p:=by rw[hpp,sj]
 rw[sm]at hcp
 unfold qq
 split
 ·exact⟨(h.set x.eC n).cD CE (by show gM (gn t.cD)<=gM t.cD;omega),rfl,λ _=>nH⟩
 split
 ·rename_i Tx
  rw[if_neg (by omega)]at hcp
  have hc:gM (jl (if n=0 then b else a) false (gn t.cD))+1<=gM t.cD:=by rw[sj];grind
  refine⟨h.cD (E1.push CE ?_ ?_) (by omega),rfl,λ _=>hc⟩<;>split<;>assumption
 split
 ·rename_i Tx
  rw[if_pos Tx]at hcp
  have hxn:=hx.n Tx
  have KB:=hx.el (by omega)
  unfold mz
  split
  ·exact⟨h.cD CE (by omega),rfl,λ _=>nH⟩
  rename_i UH
  have hco:gM (jl a false ((.cons {x with n:=x.n-1} a .nil .nil,true)::gn t.cD))+1<=gM t.cD:=by
   rw[sj,pG,sm,if_pos (by exact Tx),hcp,cpp]
   have e:x.n.toNat=(x.n-1).toNat+1:=by omega
   rw[e,Nat.succ_mul]
   show lH a+((x.n-1).toNat*(lH a+1)+lH .nil+1+_)+1<=_
   simp only[lH];omega
  refine⟨h.cD (E1.push ⟨?_,?_,?_⟩ sa aa) (by omega),rfl,λ _=>hco⟩<;>intro q hq<;>rcases List.mem_cons.1 hq with rfl|hq
  ·grind
  ·exact CE.ne q hq
  ·exact⟨hb,by show x.eo=((0:Nat):Int);omega,Tg,Nat.zero_le _,sa,trivial,trivial⟩
  ·exact CE.st q hq
  ·exact⟨⟨hx.k,hx.e,λ hk=>⟨by grind,by grind⟩,hx.el,hx.rg,hx.cl,hx.lk,hx.nm⟩,aa,trivial,trivial⟩
  exact CE.al q hq
 split
 ·have hl:gM (kc t.cD)+1<=gM t.cD:=by
   rw[hcp,hp];unfold kc
   have:=Mf p
   grind
  exact⟨h.cD h.p.leave (by omega),rfl,λ _=>hl⟩
 split
 ·split
  ·exact⟨h.flt 1,rfl,λ hh=>by cases hh⟩
  exact⟨h.cD CE (by omega),rfl,λ _=>nH⟩
 grind
theorem C8(h:xI cs ls t):xI cs ls (qt t).1/\(qt t).1.names=t.names/\((qt t).2=true->gM (qt t).1.cD+1<=gM t.cD):=by
 unfold qt
 cases ht:oQ t.cD with
 | none=>grind
 | some q=>
  obtain⟨x,a,b⟩:=q
  dsimp only
  split
  ·exact ado h ht
  ·exact⟨h.flt 2,rfl,λ hh=>by cases hh⟩
theorem He:∀(n:Nat) {t:jP},xI cs ls t->gM t.cD<n->∃tR,sO n t=some tR/\xI cs ls tR/\tR.names=t.names
 | 0,_,_,hc=>by omega
 | n+1,t,h,hc=>by
  obtain⟨h1,h2,h3⟩:=C8 h
  unfold sO
  split
  ·rename_i hs
   have:=h3 hs
   have h4:xI cs ls (qt t).1:=by have:=h1;rw[xI,h2]at this |-;exact this
   obtain⟨tR,g1,g2,g3⟩:=He n h4 (by omega)
   exact⟨tR,g1,g2,g3.trans h2⟩
  grind
def goD(t:jP):jP:=(sO (gM t.cD+1) t).getD t
theorem qu(h:xI cs ls t):sO (gM t.cD+1) t=some (goD t)/\xI cs ls (goD t)/\(goD t).names=t.names:=by
 obtain⟨tR,g1,g2,g3⟩:=He (gM t.cD+1) h (Nat.lt_succ_self _)
 unfold goD
 grind
theorem Hf{n:Nat}(h:sO n t=some tR):∃k,n=k+1:=by
 cases n with
 | zero=>cases h
 | succ k=>grind
theorem RW(h:sO (k+1) t=some tR)(hs:qt t=(t',true)):sO k t'=some tR:=by
 unfold sO at h;rw[hs]at h;exact h
theorem oS(h:sO (k+1) t=some tR)(hs:qt t=(t',false)):tR=t':=by
 unfold sO at h;rw[hs]at h;exact(Option.some.inj h).symm
theorem RX:∀(n:Nat) {t tR:jP},sO n t=some tR->xI cs ls t->tR.fault=0->∀x a b,oQ tR.cD=some (x,a,b)->(2<=x.kind/\x.kind<=10)/\(eF tR x.e).2=true/\(eF tR x.f).2=true
 | 0,_,_,hg,_,_,_,_,_,_=>by cases hg
 | n+1,t,tR,hg,h,hf,x,a,b,ht=>by
  obtain⟨h1,h2,_⟩:=C8 h
  unfold sO at hg
  split at hg
  ·exact RX n hg (by omega) hf x a b ht
  ·rename_i hs
   cases hg
   have hb:(qt t).2=false:=by simpa using hs
   unfold qt at hb hf ht
   cases hq:oQ t.cD with
   | none=>rw[hq]at ht;dsimp only at ht;rw[hq]at ht;cases ht
   | some q=>
    obtain⟨y,c,d⟩:=q
    rw[hq]at hb hf ht
    dsimp only at hb hf ht
    have hk:=(h.top hq).1.k
    split at hb
    ·rename_i hv
     rw[if_pos hv]at hf ht
     unfold qq at hb hf ht
     split at hb
     ·cases hb
     rename_i k1
     rw[if_neg k1]at hf ht
     split at hb
     ·cases hb
     rename_i k2
     rw[if_neg k2]at hf ht
     split at hb
     ·cases hb
     rename_i k3
     rw[if_neg k3]at hf ht
     split at hb
     ·cases hb
     rename_i k4
     rw[if_neg k4]at hf ht
     split at hb
     ·rename_i k5
      rw[if_pos k5]at hf
      split at hb
      ·rename_i k6;rw[if_pos k6]at hf;cases hf
      ·cases hb
     ·rename_i k5
      rw[if_neg k5]at ht
      rw[hq]at ht;cases ht
      have e:(qt t).1=t:=by unfold qt;rw[hq];dsimp only;rw[if_pos hv];unfold qq;rw[if_neg k1,if_neg k2,if_neg k3,if_neg k4,if_neg k5]
      rw[e]
      exact⟨by omega,hv⟩
    ·rename_i hv
     rw[if_neg hv]at hf;cases hf
section
variable {e:Int}
theorem Ys(h:x.kind=1):qq t x a b e=({oR t x.eC e with cD:=gn t.cD},true):=by unfold qq;grind
theorem I4(h:x.kind=11):qq t x a b e=({t with cD:=jl (if e=0 then b else a) false (gn t.cD)},true):=by unfold qq;simp[h]
theorem RY(h:x.kind=12):qq t x a b e=({t with cD:=mz x a t.cD},true):=by unfold qq;simp[h]
theorem RZ(h:x.kind=13):qq t x a b e=({t with cD:=kc t.cD},true):=by unfold qq;simp[h]
theorem Mg(h:x.kind=14)(he:e=0):qq t x a b e=({t with fault:=1},false):=by unfold qq;grind
theorem Mh(h:x.kind=14)(he:¬ e=0):qq t x a b e=({t with cD:=gn t.cD},true):=by unfold qq;grind
theorem R0(h1:¬ x.kind=1)(h2:¬ x.kind=11)(h3:¬ x.kind=12)(h4:¬ x.kind=13)(h5:¬ x.kind=14):qq t x a b e=(t,false):=by grind[qq]
end
theorem Yt(h:oQ t.cD=none):qt t=(t,false):=by unfold qt;rw[h]
theorem Yu(h:oQ t.cD=some (x,a,b))(h2:(eF t x.e).2=false):qt t=({t with fault:=2},false):=by unfold qt;grind
theorem Yv(h:oQ t.cD=some (x,a,b))(h3:(eF t x.f).2=false):qt t=({t with fault:=2},false):=by unfold qt;grind
theorem Yw(h:oQ t.cD=some (x,a,b))(h2:(eF t x.e).2=true)(h3:(eF t x.f).2=true):qt t=qq t x a b (eF t x.e).1:=by unfold qt;grind
end
theorem Pf(a0:Option Addr)(n0 c0:Nat)(a1:Bool):pr Tryz.prog (Instr.build 143 [(0,.slice a0 n0 c0),(1,.bool a1)].toArray)=some (.agg [.slice a0 n0 c0,.bool a1].toArray):=by kernel_rfl
structure wW where
 l:SV
 I5:Bool
instance:Flat wW where
 agg:=true
 sz:=2
 enc e:=[.slice e.l.a e.l.n e.l.cap,.bool e.I5]
 val e:=.agg [.slice e.l.a e.l.n e.l.cap,.bool e.I5].toArray
 pos:=by decide
 len _:=rfl
 one a v h:=by simp at h;rcases h with rfl|rfl<;>rfl
 m6 _ _:=rfl
 nn h:=by cases h
variable (w:World) (K:Value->World->Prop)
def S137(t0:Value):Prop:=
 aL 193 w λ a b=>nC t0 λ c=>fA 138 c 3 λ d=>lA 136 d b λ e=>lN 136 e λ f=>bB .eql 3 f (i 0) λ g=>cV g (eN Tryz.prog (Instr.build 193 [].toArray) λ h=>sA 193 a h b λ j=>
 lA 193 a j λ r=>K (.tuple #[r,(.slice none 0 0),(.slice none 0 0),ff]) j) (nC t0 λ k=>fA 138 k 3 λ l=>lA 136 l (drew b) λ n=>nC t0 λ o=>fA 138 o 3 λ p=>lA 136 p (drew b) λ q=>
 lN 136 q λ s=>bB .sub 3 s (i 1) λ t=>iA 136 n t λ u=>fA 143 u 0 λ v=>lA 141 v (drew b) λ x=>iA 141 x (i 0) λ y=>lA 193 y (drew b) λ z=>aL 193 (drew b) λ aa ab=>
 sA 193 aa z ab λ ac=>fA 193 aa 6 λ ad=>lA 3 ad ac λ ae=>bC .add 3 (i 1) ae λ af=>fA 193 aa 7 λ ag=>lA 3 ag ac λ ah=>bA .add 3 af ah λ ai=>lA 193 aa (drew ac) λ aj=>
 eN Tryz.prog (Instr.sliceAt 141 x (some (i 1)) (some af) (some af)) λ ak=>eN Tryz.prog (Instr.sliceAt 141 x (some af) (some ai) (some ai)) λ al=>sA 193 a aj (drew ac) λ am=>
 lA 193 a am λ HY=>K (.tuple #[HY,ak,al,tt]) am)
def awB:dD:=λ i=>match i with
 | 3=>.run 0 14
 | 7=>.run 0 14
 | _=>.nil
theorem adq(t0:Value)(h:S137 w K t0):CR 137 [t0] w K:=
 qz 50 awB 60 [.cell 2 193,.tmp 3,.tmp 4,.tmp 5] Tryz.func137 h
def awC:dD:=λ i=>match i with
 | 3=>.run 0 14
 | _=>.nil
def S197(t0:Value):Prop:=
 kh (λ K1 Yx a=>∀_:Env,
 fc (λ K2=>eN Tryz.prog (Op.unary .not Yx) λ b=>cV b (nC t0 λ c=>fA 138 c 3 λ d=>lA 136 d a λ e=>lN 136 e λ f=>bB .gtr 3 f (i 0) λ g=>K2 g a) (K2 ff a))
 (λ h j=>∀_:Env,
 cV h (nC t0 λ k=>fA 138 k 3 λ l=>lA 136 l j λ n=>lN 136 n λ o=>bB .sub 3 o (i 1) λ p=>nC t0 λ q=>fA 138 q 3 λ r=>lA 136 r j λ s=>iA 136 s p λ t=>fA 143 t 1 λ u=>
 lA 4 u j λ v=>nC t0 λ x=>fA 138 x 3 λ y=>lA 136 y j λ z=>eN Tryz.prog (Instr.sliceAt 136 z none (some p) (some p)) λ aa=>nC t0 λ ab=>fA 138 ab 3 λ ac=>sA 136 ac aa j λ ad=>
 K1 v ad) (K (.tuple #[]) j))) (λ K1=>K1 ff w)
theorem adr(t0:Value)(h:S197 w K t0):CR 197 [t0] w K:=
 qz 38 (λ _=>.nil) 0 [] Tryz.func197 h
def S161(t0 l1:Value):Prop:=
 lN 82 l1 λ a=>bB .eql 3 a (i 0) λ b=>cV b (K (.tuple #[(i 0),tt]) w) (nC t0 λ c=>fA 138 c 1 λ d=>lA 91 d (drew w) λ e=>nC t0 λ f=>fA 138 f 2 λ g=>lA 41 g (drew w) λ h=>
 cF 143 [l1,e,h] (drew w) λ j k=>xT j 0 λ l=>xT j 1 λ n=>yc (λ K1=>bB .neq 31 n (i 0) λ o=>cV o (nC t0 λ p=>fA 138 p 4 λ q=>sA 3 q (i 2) k λ r=>K1 r) (
 K1 k)) (λ s=>∀_:Env,
 bB .eql 31 n (i 0) λ t=>K (.tuple #[l,t]) s))
def awD:dD:=λ i=>match i with
 | 3=>.run 0 15
 | _=>.nil
theorem ads(t0 l1:Value)(h:S161 w K t0 l1):CR 161 [t0,l1] w K:=
 qz 32 awD 48 [.tmp 4,.tmp 5] Tryz.func161 h
def S117(t0:Value):Prop:=
 QA (λ K1 a=>∀_:Env,
 cF 137 [t0] a λ b c=>xT b 0 λ d=>xT b 1 λ e=>xT b 2 λ f=>xT b 3 λ g=>aL 193 c λ h j=>sA 193 h d j λ k=>eN Tryz.prog (Op.unary .not g) λ l=>cV l (K (.tuple #[]) k) (
 fA 193 h 3 λ n=>lA 82 n k λ o=>cF 161 [t0,o] k λ p q=>xT p 0 λ r=>xT p 1 λ s=>eN Tryz.prog (Op.unary .not s) λ t=>cV t (K (.tuple #[]) q) (fA 193 h 4 λ u=>lA 82 u q λ v=>
 cF 161 [t0,v] q λ x y=>xT x 0 λ _=>xT x 1 λ z=>eN Tryz.prog (Op.unary .not z) λ aa=>cV aa (K (.tuple #[]) y) (fA 193 h 0 λ ab=>lA 3 ab y λ ac=>bB .eql 3 ac (i 1) λ ad=>
 cV ad (nC t0 λ ae=>fA 138 ae 2 λ af=>lA 41 af (drew y) λ ag=>nC t0 λ ah=>fA 138 ah 1 λ ai=>lA 91 ai (drew y) λ aj=>fA 193 h 1 λ ak=>lA 9 ak (drew y) λ al=>
 cF 159 [aj,al] (drew y) λ am an=>kA 41 af ag an (iA 41 ag am λ ao=>sA 3 ao r an λ ap=>cF 164 [t0] ap λ _ aq=>K1 aq)) (bB .eql 3 ac (i 11) λ ar=>cV ar (cF 164 [t0] y λ _ asx=>
 fc (λ K2=>bB .eql 3 r (i 0) λ au=>cV au (K2 f asx) (K2 e asx)) (λ apZ av=>∀_:Env,
 cF 116 [t0,apZ,ff] av λ _ aw=>K1 aw)) (bB .eql 3 ac (i 12) λ ax=>cV ax (lA 193 h y λ ay=>cF 196 [t0,ay,e] y λ _ az=>K1 az) (bB .eql 3 ac (i 13) λ a0=>cV a0 (cF 197 [t0] y λ _ a1=>
 K1 a1) (bB .eql 3 ac (i 14) λ a2=>cV a2 (bB .eql 3 r (i 0) λ a3=>cV a3 (nC t0 λ a4=>fA 138 a4 4 λ a5=>sA 3 a5 (i 1) y λ a6=>K (.tuple #[]) a6) (cF 164 [t0] y λ _ a7=>
 K1 a7)) (K (.tuple #[]) y))))))))) (λ K1=>K1 w)
def awE:dD:=λ i=>match i with
 | 8=>(.of [(0,[]),(1,[]),(2,[]),(3,[]),(4,[]),(5,[]),(6,[]),(7,[]),(8,[]),(9,[]),(11,[]),(10,[3]),(12,[]),(13,[])])
 | _=>.nil
theorem adt(t0:Value)(h:S117 w K t0):CR 117 [t0] w K:=
 qz 83 awE 0 [] Tryz.func117 h
theorem Mi:PL 116:=dF Tryz.func116
theorem Yy:PL 137:=dF Tryz.func137
theorem Mj:PL 164:=dF Tryz.func164
theorem ap0:PL 196:=dF Tryz.func196
theorem ap1:PL 197:=dF Tryz.func197
theorem Mk:PL 161:=dF Tryz.func161
theorem agi:PL 117:=dF Tryz.func117
theorem agj:PL 141:=dF Tryz.func141
end Go.Proofs.YtpdlpabnlkofmaaGreatDoor
namespace Go.Fw
section
variable {P:Program}{w w0:World}{A S:Nat->Prop}{L:List HP}
theorem E2{n cap l h m:Nat}{lo hi mx:Option Value}(hl:lo=none/\l=0\/∃i:Int,lo=some (.int .i64 i)/\0<=i/\l=i.toNat)(hh:∃i:Int,hi=some (.int .i64 i)/\0<=i/\h=i.toNat)(hm:∃i:Int,mx=some (.int .i64 i)/\0<=i/\m=i.toNat)
  (h1:l<=h) (h2:h<=m) (h3:m<=cap):pr P (Instr.sliceBounds true n cap lo hi mx)=some (l,h,m):=by
 obtain⟨j,rfl,hj,rfl⟩:=hh
 obtain⟨k,rfl,hk,rfl⟩:=hm
 rcases hl with⟨rfl,rfl⟩|⟨i,rfl,h0,rfl⟩<;>simp only[Instr.sliceBounds,cX,fM,Option.bind_some]
 ·rw[jd hk (by omega)];simp only[Option.bind_some];rw[jd hj (by omega)];rfl
 rw[jd hk (by omega)];simp only[Option.bind_some];rw[jd hj (by omega)];simp only[Option.bind_some];rw[jd h0 (by omega)];rfl
theorem R2{T E sz kS:Nat}{z:Option Nat}{a:Option Addr}{n cap l h m:Nat}{lo hi mx:Option Value}(ht:eK P T=some (E,sz,kS,z))
  (hb:pr P (Instr.sliceBounds true n cap lo hi mx)=some (l,h,m)) :
  pr P (Instr.sliceAt T (.slice a n cap) lo hi mx)=some (.slice (if m=l then a else a.map (·.add (l*sz))) (h-l) (m-l)):=by
 obtain⟨hu,inf,NS,o7,_⟩:=fp ht
 unfold Instr.sliceAt
 rw[cX,cZ hu]
 simp only[Option.bind_some]
 unfold Instr.slice
 rw[cX,cZ hu]
 simp only[Option.bind_some]
 rw[cX,hb]
 simp only[Option.bind_some]
 rw[cX,mI NS,o7]
 rfl
variable {α:Type}[Flat α] {xs:List α}
theorem dC.awF{v:Value}{a:Option Addr}{n cap l h:Nat}(hv:v=.slice a n cap)(hr:dC S w v xs)(h1:l<=h)(h2:h<=xs.length) :
  dC S w (.slice (if h=l then a else a.map (·.add (l*Flat.sz α))) (h-l) (h-l)) ((xs.take h).drop l):=by
 obtain⟨a',DD,Bh,Bg,h3⟩:=hr
 rw[Bh]at hv
 simp only[Value.slice.injEq]at hv
 obtain⟨rfl,hn,rfl⟩:=hv
 have hlen:((xs.take h).drop l).length=h-l:=by simp;omega
 rcases h3 with⟨hxs,B6⟩|⟨b,o,rfl,h4,h5⟩
 ·subst hxs
  exact⟨_,h-l,by rw[hlen],by simp,.inl ⟨by simp,by simp at h2;omega⟩⟩
 refine⟨_,h-l,by rw[hlen],by rw[hlen];exact Nat.le_refl _,.inr ?_⟩
 have FL:(xs.take h).drop l≠[]->xs≠[]:=λ hh hx=>hh (by rw[hx];simp)
 by_cases hh:h=l
 ·rw[if_pos hh]
  refine⟨b,o,rfl,λ hx=>h4 (FL hx),λ j c hj=>?_⟩
  have:((xs.take h).drop l)=[]:=by rw[<- List.length_eq_zero_iff,hlen];omega
  rw[this]at hj;simp[l8]at hj
 rw[if_neg hh]
 refine⟨b,o+l*Flat.sz α,by simp[gu],λ hx=>h4 (FL hx),λ j c hj=>?_⟩
 rw[Gv,Gu,List.getElem?_drop,List.getElem?_take]at hj
 split at hj
 ·have:=h5 _ c hj
  rwa [show o+(l*Flat.sz α+j)=o+l*Flat.sz α+j from by omega]at this
 cases hj
theorem Ml{T E kS:Nat}{z:Option Nat}{v:Value}{i j:Int}{K:Value->Prop}(ht:eK P T=some (E,Flat.sz α,kS,z))(hr:dC S w v xs)
  (h0:0<=i) (h1:i<=j) (h2:j<=xs.length) (k:∀v',(∀w' (ys:List α),dC S w' v ys->dC S w' v' ((ys.take j.toNat).drop i.toNat))->K v'):eN P (Instr.sliceAt T v (some (.int .i64 i)) (some (.int .i64 j)) (some (.int .i64 j))) K:=by
 obtain⟨a,cap,rfl,Bg,h3⟩:=hr
 refine⟨_,R2 ht (E2 (.inr ⟨i,rfl,h0,rfl⟩) ⟨j,rfl,by omega,rfl⟩ ⟨j,rfl,by omega,rfl⟩ (by omega) (Nat.le_refl _) (by omega)),k _ λ w' ys hw=>hw.awF rfl (by omega) ?_⟩
 obtain⟨_,_,h4,_⟩:=hw
 grind
theorem Pg{T E kS:Nat}{z:Option Nat}{v:Value}{i:Int}{K:Value->Prop}(ht:eK P T=some (E,Flat.sz α,kS,z))(hr:dC S w v xs)
  (h0:0<=i) (h2:i<=xs.length) (k:∀v',(∀w' (ys:List α),dC S w' v ys->dC S w' v' (ys.drop i.toNat))->K v'):eN P (Instr.sliceAt T v (some (.int .i64 i)) none none) K:=by
 obtain⟨a,cap,rfl,Bg,h3⟩:=hr
 refine⟨_,v9 ht (n7 (.inr ⟨i,rfl,h0,rfl⟩) (.inl ⟨rfl,rfl⟩) (by omega) (by omega)),k _ λ w' ys hw=>?_⟩
 have hl:ys.length=xs.length:=by
  obtain⟨_,_,h4,_⟩:=hw
  grind
 have:=hw.cut rfl (show i.toNat<=ys.length by omega) (Nat.le_refl _)
 grind
theorem Cl{T E kS:Nat}{z:Option Nat}{v:Value}{i:Int}{K:Value->Prop}(ht:eK P T=some (E,Flat.sz α,kS,z))
  (hs:St w0 A (bG v xs::L) w) (h0:0<=i) (h1:i<=xs.length) (k:∀v',St w0 A (bG v' (xs.take i.toNat)::L) w->K v'):eN P (Instr.sliceAt T v none (some (.int .i64 i)) (some (.int .i64 i))) K:=by
 obtain⟨a,cap,hv,Bg,_⟩:=hs.dX
 refine⟨_,(by rw[hv];exact R2 ht (E2 (.inl ⟨rfl,rfl⟩) ⟨i,rfl,h0,rfl⟩ ⟨i,rfl,h0,rfl⟩ (Nat.zero_le _) (Nat.le_refl _) (by omega))),k _ ?_⟩
 refine hs.qW λ F hF=>?_
 rcases hF with⟨hv0,hx,eD⟩|⟨b,DD,rest,Bh,hb,hl,hF⟩
 ·rw[hv0]at hv
  subst hx
  simp only[Value.slice.injEq]at hv
  obtain⟨rfl,_,rfl⟩:=hv
  have hi:i.toNat=0:=by simp at h1;omega
  refine⟨F,.inl ⟨?_,by simp,eD⟩,λ b hb=>.inl hb,gq.refl _ _⟩
  rw[hi];rfl
 rw[Bh]at hv
 simp only[Value.slice.injEq]at hv
 obtain⟨rfl,_,rfl⟩:=hv
 have FH:(xs.take i.toNat).length=i.toNat:=by rw[List.length_take];omega
 refine⟨F,.inr ⟨b,i.toNat,flat (xs.drop i.toNat)++rest,?_,?_,⟨by omega,?_⟩,hF⟩,λ b hb=>.inl hb,gq.refl _ _⟩
 ·rw[FH]
  simp[gu]
 ·rw[<- List.append_assoc,<- hG,List.take_append_drop];exact hb
 rw[List.length_append,dG,FH];omega
end
end Go.Fw
namespace Go.Proofs.YtpdlpabnlkofmaaGreatDoor
open Go.Fw
def qR(K:World->Prop)(sv:SV)(rows:List aZ)(l:List bN)(w:World):Prop:=(∀w',K w'->jh rows l w')/\(K w->dC (λ _=>True) w (Flat.val sv) rows)
abbrev PE:=List (wW×List aZ)
def Da(K:World->Prop)(w:World):PE->PD->Prop
 | [],[]=>True
 | e::es,q::p=>(e.1.I5=q.2/\qR K e.1.l e.2 q.1.flat w)/\Da K w es p
 | _,_=>False
def NC(es:PE):List wW:=(es.map Prod.fst).reverse
theorem Yz(e:wW×List aZ)(es:PE):NC (e::es)=NC es++[e.1]:=by simp[NC]
theorem rf(es:PE):(NC es).length=es.length:=by simp[NC]
theorem Da.len{K:World->Prop}{w:World}:∀{es:PE}{p:PD},Da K w es p->es.length=p.length
 | [],[],_=>rfl
 | e::es,q::p,h=>by have:=Da.len h.2;simp[this]
 | [],_::_,h=>h.elim
 | _::_,[],h=>h.elim
def eL(K Φ:World->Prop)(p:Nat)(room:Int)(t:jP):HP:=qd λ bp:Nat=>qd λ nv:SV=>qd λ rg=>qd λ pl=>qd λ es:PE=>fact (∀w,K w->dC (λ _=>True) w (Flat.val nv) t.names)
 (sep (bY p [.pointer (some ⟨bp,0,none⟩),Flat.val nv,rg,pl,.int .i64 t.fault]) (sep (ja bp room t.buf) (sep (bG rg t.dL) (sep (bG pl (NC es)) (fk λ w=>Da K w es t.cD/\Φ w)))))
abbrev rh(K:World->Prop)(p:Nat)(room:Int)(t:jP):HP:=eL K (λ _=>True) p room t
section
variable {w w0:World}{A:Nat->Prop}{R:List HP}{p:Nat}{K Φ Ψ:World->Prop}{room:Int}{t:jP}
theorem so{H1 H2 H3 H4 H5:HP}(hs:St w0 A (sep H1 (sep H2 (sep H3 (sep H4 H5)))::R) w):St w0 A (H1::H2::H3::H4::H5::R) w:=by
 have h1:=hs.split
 have h2:=h1.p1.split
 have h3:=h2.p1.split
 have h4:=h3.p1.split
 exact h4.p2.p3.p4
theorem sq{H1 H2 H3 H4 H5:HP}(hs:St w0 A (H1::H2::H3::H4::H5::R) w):St w0 A (sep H1 (sep H2 (sep H3 (sep H4 H5)))::R) w:=by
 have h4:=St.join (hs.p4.p4)
 have h3:=St.join h4.p3
 have h2:=St.join h3.p2
 exact St.join h2.p1
abbrev AI(bp:Nat)(nv:SV)(rg pl:Value)(f:Int):List Value:=[.pointer (some ⟨bp,0,none⟩),Flat.val nv,rg,pl,.int .i64 f]
theorem eL.open(hs:St w0 A (eL K Φ p room t::R) w):∃bp nv rg pl es,(∀w,K w->dC (λ _=>True) w (Flat.val nv) t.names)/\
  St w0 A (bY p (AI bp nv rg pl t.fault)::ja bp room t.buf::bG rg t.dL::bG pl (NC es)::fk (λ w=>Da K w es t.cD/\Φ w)::R) w:=by
 obtain⟨bp,hs⟩:=hs.er;obtain⟨nv,hs⟩:=hs.er;obtain⟨rg,hs⟩:=hs.er;obtain⟨pl,hs⟩:=hs.er;obtain⟨es,hs⟩:=hs.er;obtain⟨hk,hs⟩:=hs.me
 exact⟨bp,nv,rg,pl,es,hk,so hs⟩
theorem eL.shut{bp:Nat}{nv:SV}{rg pl:Value}{es:PE}(hk:∀w,K w->dC (λ _=>True) w (Flat.val nv) t.names)
  (hs:St w0 A (bY p (AI bp nv rg pl t.fault)::ja bp room t.buf::bG rg t.dL::bG pl (NC es)::fk (λ w=>Da K w es t.cD/\Φ w)::R) w):St w0 A (eL K Φ p room t::R) w:=
 St.et bp (St.et nv (St.et rg (St.et pl (St.et es (St.oc hk (sq hs))))))
theorem eL.mono(hs:St w0 A (eL K Φ p room t::R) w)(h:∀w,Φ w->Ψ w):St w0 A (eL K Ψ p room t::R) w:=by
 obtain⟨bp,nv,rg,pl,es,hk,hs⟩:=eL.open hs
 have h1:=(hs.p4).dU (Ψ:=λ w=>Da K w es t.cD/\Ψ w) λ w hh=>⟨hh.1,h w hh.2⟩
 exact eL.shut hk h1.p4.p4.p4.p4
theorem eL.now(hs:St w0 A (eL K Φ p room t::R) w):Φ w:=by
 obtain⟨bp,nv,rg,pl,es,hk,hs⟩:=eL.open hs
 exact(hs.p4).fk.2
theorem eL.rd(h:Has (eL K Φ p room t) w):∃bp nv rg pl es,(∀w,K w->dC (λ _=>True) w (Flat.val nv) t.names)/\ng w p (AI bp nv rg pl t.fault)/\tN w bp room t.buf/\dC (λ _=>True) w rg t.dL/\dC (λ _=>True) w pl (NC es)/\Da K w es t.cD/\Φ w:=by
 obtain⟨F,hs⟩:=h.st
 obtain⟨bp,nv,rg,pl,es,hk,hs⟩:=eL.open hs
 exact⟨bp,nv,rg,pl,es,hk,hs.hb,C6 hs.p1,hs.p2.dX,hs.p3.dX,hs.p4.fk.1,hs.p4.fk.2⟩
theorem iV{xv:aZ}{x:bN}(h:Deep.dr w xv x):∃ge gf:SV,xv=⟨x.kind,x.eC,x.name,ge,gf,x.n,x.body,x.eo,x.at_⟩/\dC (λ _=>True) w (Flat.val ge) x.e/\dC (λ _=>True) w (Flat.val gf) x.f:=by
 obtain⟨ge,gf,h1,h2,h3⟩:=h
 exact⟨ge,gf,h1,DL.flat h2,DL.flat h3⟩
theorem jh.cut{rows:List aZ}{l:List bN}{i j:Nat}(h:jh rows l w):jh ((rows.take j).drop i) ((l.take j).drop i) w:=(h.take j).drop i
theorem aoW{x:bN}{a b r:Bk}(h:(Bk.cons x a b r).str){j:Int}(hj:j=1+x.body):(((Bk.cons x a b r).flat.take j.toNat).drop (1:Int).toNat)=a.flat:=by
 obtain⟨g1,_⟩:=h
 have la:=a.cY
 rw[vd _ (a:=1) (c:=(1:Int).toNat) (n:=a.flat.length) (by omega) rfl]
 show(a.flat++(b.flat++r.flat)).take _=_
 grind
theorem aoX{x:bN}{a b r:Bk}(h:(Bk.cons x a b r).str){i j:Int}(hi:i=1+x.body)(hj:j=1+x.body+x.eo):(((Bk.cons x a b r).flat.take j.toNat).drop i.toNat)=b.flat:=by
 obtain⟨g1,g2,_⟩:=h
 have la:=a.cY
 have lb:=b.cY
 rw[vd _ (a:=1+a.flat.length) (n:=b.flat.length) (by omega) (by omega),<- List.drop_drop]
 show((a.flat++(b.flat++r.flat)).drop _).take _=_
 grind
theorem qR.cut{sv sv':SV}{rows:List aZ}{l:List bN}{i j:Nat}(h:qR K sv rows l w)(hc:∀w' (ys:List aZ),dC (λ _=>True) w' (Flat.val sv) ys->dC (λ _=>True) w' (Flat.val sv') ((ys.take j).drop i)):qR K sv' ((rows.take j).drop i) ((l.take j).drop i) w:=
 ⟨λ w' hw=>jh.cut (h.1 w' hw),λ hw=>hc _ _ (h.2 hw)⟩
theorem qR.V2{sv sv':SV}{rows:List aZ}{l:List bN}{i:Nat}(h:qR K sv rows l w)(hc:∀w' (ys:List aZ),dC (λ _=>True) w' (Flat.val sv) ys->dC (λ _=>True) w' (Flat.val sv') (ys.drop i)):qR K sv' (rows.drop i) (l.drop i) w:=
 ⟨λ w' hw=>(h.1 w' hw).drop i,λ hw=>hc _ _ (h.2 hw)⟩
theorem Da.top{es:PE}{q:Bk×Bool}{p:PD}(h:Da K w es (q::p)):∃sv rows TM,es=(⟨sv,q.2⟩,rows)::TM/\qR K sv rows q.1.flat w/\Da K w TM p:=by
 match es,h with
 | [],h=>exact h.elim
 | e::es,h=>
  obtain⟨⟨sv,en⟩,rows⟩:=e
  obtain⟨⟨h1,h2⟩,h3⟩:=h
  grind
theorem Da.cons{sv:SV}{e:Bool}{rows:List aZ}{es:PE}{q:Bk×Bool}{p:PD}(h:Da K w ((⟨sv,e⟩,rows)::es) (q::p)):qR K sv rows q.1.flat w/\Da K w es p:=⟨h.1.2,h.2⟩
theorem E3{e:wW×List aZ}{es:PE}:(NC (e::es))[es.length]?=some e.1:=by grind[NC]
theorem R3{e:wW×List aZ}{es:PE}:(NC (e::es)).take es.length=NC es:=by grind[NC]
end
theorem C116(K Φ:World->Prop)(p:Nat)(room:Int)(t:jP)(F:Nat->Prop)(lv:SV)(rows:List aZ)(b:Bk)(e:Bool)(w:World)(hF:(eL K Φ p room t).p w F)(hK:∀w',gq F w w'->K w')(hΦ:∀w,Φ w->qR K lv rows b.flat w)(oZ:t.cD.length<=100000) :
    CR 116 [.pointer (some ⟨p,0,none⟩),Flat.val lv,.bool e] w (λ v w'=>v=.tuple #[]/\mL F (eL K Φ p room {t with cD:=jl b e t.cD}) w w'):=by
 have hs:=St.begin hF;refine eS Tryz.func116 ?_;obtain⟨yu,Ct⟩:=hΦ _ (eL.now hs);have hlen:=(yu _ (hK _ hs.aF)).1;refine aI fo (Ct (hK _ hs.aF)) (cP (aC (λ c=>?_) (λ c=>?_)));rotate_left
 ·have hb:b=.nil:=by
   cases b with
   | nil=>rfl
   | cons y a b' r=>simp[Bk.flat]at hlen;omega
  subst hb;exact⟨rfl,hs.mut⟩
 obtain⟨y,a,b',r,rfl⟩:=Bk.C1 (t:=b) (by omega);obtain⟨bp,nv,rg,pl,es,hk,hs⟩:=eL.open hs;have KB:=hs.p4.fk.1.len;refine aD (aA jE (aB rI hs.hb rfl (pop (Pf lv.a lv.n lv.cap e) (aX (([(⟨lv,e⟩:wW)])) hs uh rfl rfl (dI rfl) (λ s17 _ hs=>?_)))));have FI:=(hs).dX;refine bI hs.p4 uh FI (by rw[rf];simp;omega) (by decide) (λ s18 _ hs=>have hs:=(hs.p1).drop;aD (aA jE (aS hs.p1 rI (dI rfl) ((hs).dX.one) (λ _ hs=>?_))));have hs:=hs.p4.dU (Ψ:=λ w=>Da K w ((⟨lv,e⟩,rows)::es) ((.cons y a b' r,e)::t.cD)/\Φ w) (λ w h=>⟨⟨⟨rfl,hΦ w h.2⟩,h.1⟩,h.2⟩)
 have hs:=hs.p2;rw[<- Yz (⟨lv,e⟩,rows) es]at hs;have hs:=eL.shut (Φ:=Φ) (t:={t with cD:=(.cons y a b' r,e)::t.cD}) hk hs.p1.p1.p4.p4.p4;exact⟨rfl,hs.mut⟩
theorem C164(K Φ:World->Prop)(p:Nat)(room:Int)(t:jP)(F:Nat->Prop)(y:bN)(a b r:Bk)(e:Bool)(p':PD)(w:World)(hF:(eL K Φ p room t).p w F)(hK:∀w',gq F w w'->K w')(A0:t.cD=(.cons y a b r,e)::p')(iL:(Bk.cons y a b r).str)(oZ:t.cD.length<=100000) :
   CR 164 [.pointer (some ⟨p,0,none⟩)] w (λ v w'=>v=.tuple #[]/\mL F (eL K Φ p room {t with cD:=gn t.cD}) w w'):=by
 have hpp:gn t.cD=jl r false p':=by rw[A0];rfl
 have awG:p'.length<=100000:=by grind
 have hs:=St.begin hF;refine oY Tryz.func164 (pl:=awC) ?_;obtain⟨bp,nv,rg,pl,es,hk,hs⟩:=eL.open hs;have hfz:=hs.p4.fk.1;rw[A0]at hfz;obtain⟨sv,rows,TM,rfl,⟨yu,Ct⟩,_⟩:=hfz.top;have KB:=hfz.len;rw[List.length_cons,List.length_cons]at KB;have O0:=yu _ (hK _ hs.aF);have F4:=O0.1;have sS:=(Bk.cons y a b r).cY
 change rows.length=(Bk.cons y a b r).flat.length at F4
 obtain⟨JE,hb2,hb3,hb4,_⟩:=id iL;simp only[Bk.len]at sS;obtain⟨t0,TN⟩:∃t0,rows[(0:Int).toNat]?=some t0:=⟨_,List.getElem?_eq_getElem (by simp;omega)⟩;obtain⟨ge,gf,rfl,_,_⟩:=iV (O0.2 0 _ y TN rfl);refine aD (aA jE (aB rI hs.hb rfl (aI uh hs.p3.dX ?_)));rw[rf,List.length_cons];refine fe (by omega) ?_;rw[show((TM.length+1:Nat):Int)-1=(TM.length:Int)from by omega];refine aD (aA jE (aB rI hs.hb rfl (aO uh hs.p3.dX (by omega) (by rw[Int.toNat_natCast];exact E3) (λ q hq=>bW sv Kq hq rfl rfl (λ q2 JH=>aE jF JH (aD (aA jE (aB rI hs.hb rfl (have hs:=hs.p3;Cl uh hs (by omega) (by rw[rf,List.length_cons];omega) (λ s25 hs=>?_))))))))))
 rw[Int.toNat_natCast,R3]at hs;refine aD (aA jE (aS hs.p1 rI (dI rfl) ((hs).dX.one) (λ _ hs=>?_)));have hs:=hs.drew.p4;rw[A0]at hs;have hs:=hs.dU (Ψ:=λ w=>Da K w TM p'/\(Φ w/\qR K sv rows (Bk.cons y a b r).flat w)) (λ _ h=>⟨h.1.2,h.2,h.1.1.2⟩);have FQ:=hs.fk.2.2.2 (hK _ hs.aF);have hs:=eL.shut (Φ:=λ w=>Φ w/\qR K sv rows (Bk.cons y a b r).flat w) (t:={t with cD:=p'}) hk hs.p2.p4.p4.p4;refine aO fo FQ (by omega) TN (λ q3 hq3=>bW y.body iO hq3 rfl rfl (λ q4 hq4=>aE bL hq4 (aK (by omega) (aO fo FQ (by omega) TN (λ q5 hq5=>bW y.eo iw hq5 rfl rfl (λ q6 hq6=>aE bL hq6 (aK (by omega) (Pg fo FQ (by omega) (by omega) (λ s40 h40=>?_)))))))))
 obtain⟨awJ,rfl⟩:=(h40 _ _ FQ).fC;refine bD Mi hs (H':=λ _=>eL K (λ w=>Φ w/\qR K sv rows (Bk.cons y a b r).flat w) p room {t with cD:=jl r false p'}) (Φ:=λ _ _=>True) (λ F2 dY dW=>?_) ?_
 ·refine(C116 K _ p room {t with cD:=p'} F2 awJ (rows.drop (1+y.body+y.eo).toNat) r false _ dY (λ w' hc=>hK w' (dW w' hc).aF) (λ w h=>?_) awG).mono λ _ _ r=>r.mono λ _ _ h=>⟨trivial,h.2⟩;have:=h.2.V2 h40;rw[Bk.ahN iL rfl]at this;exact this
 rintro _ _ _ hs;rw[<- hpp]at hs;exact⟨rfl,(eL.mono hs (λ _ h=>h.1)).mut⟩
theorem C137(K:World->Prop)(p:Nat)(t:jP)(bp:Nat)(nv:SV)(rg pl:Value)(es:PE)(φ:bN->Prop)(w:World)(su:ng w p (AI bp nv rg pl t.fault))(TO:dC (λ _=>True) w pl (NC es))(I6:Da K w es t.cD)
   (hw:∀w',Ext w w'->K w') (hpo:E1 φ t.cD) (hl:t.cD.length<=100000):CR 137 [.pointer (some ⟨p,0,none⟩)] w (λ v w'=>Ext w w'/\((oQ t.cD=none/\v=.tuple #[Flat.val (⟨0,⟨#[]⟩,⟨#[]⟩,cH,cH,0,0,0,0⟩:aZ),.slice none 0 0,.slice none 0 0,.bool false])\/
    ∃x a b xv av bv ra rb,oQ t.cD=some (x,a,b)/\v=.tuple #[Flat.val (xv:aZ),Flat.val (av:SV),Flat.val (bv:SV),.bool true]/\(∀w',K w'->Deep.dr w' xv x)/\∀w2,Da K w2 es t.cD->qR K av ra a.flat w2/\qR K bv rb b.flat w2)):=by
 have c3:=su.cell (o:=3) rfl;have KB:=I6.len;have hs:=St.start w;refine adq _ _ _ ?_;unfold S137;refine aM hs jq (λ b2 _ hs=>have hs:=hs.enc (cs':=Flat.enc (⟨0,⟨#[]⟩,⟨#[]⟩,cH,cH,0,0,0,0⟩:aZ)) rfl;aD (aA jE (bM rI (c3.ext hs.aF) (aI uh (TO.ext hs.aF) ?_))));rw[rf];refine aH (aC (λ c=>?_) (λ c=>?_))
 ·have NA:t.cD=[]:=List.length_eq_zero_iff.1 (by omega);exact pop (v:=Flat.val (⟨0,⟨#[]⟩,⟨#[]⟩,cH,cH,0,0,0,0⟩:aZ)) (by kernel_rfl) (aJ (x:=(⟨0,⟨#[]⟩,⟨#[]⟩,cH,cH,0,0,0,0⟩:aZ)) hs eI rfl rfl (λ _ hs=>aE eI hs.At ⟨hs.drop.aF,.inl ⟨by rw[NA];rfl,rfl⟩⟩))
 obtain⟨cD,ap5⟩:∃q,q=t.cD:=⟨_,rfl⟩;rw[<- ap5]at I6 hpo KB hl |-;cases cD with
 | nil=>exact absurd (show((es.length:Nat):Int)=0 by have h0:es.length=0:=KB;omega) c
 | cons q p'=>
 obtain⟨q1,e⟩:=q;cases q1 with
 | nil=>exact absurd rfl (hpo.ne _ (List.mem_cons_self ..))
 | cons y a b r=>
 have iL:=hpo.st _ (List.mem_cons_self ..);obtain⟨sv,rows,TM,rfl,⟨yu,Ct⟩,_⟩:=I6.top;have O0:=yu _ (hw _ (Ext.refl _));have F4:=O0.1;have sS:=(Bk.cons y a b r).cY
 change rows.length=(Bk.cons y a b r).flat.length at F4
 obtain⟨JE,hb2,hb3,hb4,_⟩:=id iL;simp only[Bk.len]at sS;rw[List.length_cons]at KB c;rw[List.length_cons]at KB hl;obtain⟨t0,TN⟩:∃t0,rows[(0:Int).toNat]?=some t0:=⟨_,List.getElem?_eq_getElem (by simp;omega)⟩;obtain⟨ge,gf,rfl,_,_⟩:=iV (O0.2 0 _ y TN rfl);have FQ:=Ct (hw _ (Ext.refl _));have hs:=hs.drew;refine aD (aA jE (bM rI (c3.ext hs.aF) (aD (aA jE (bM rI (c3.ext hs.aF) (aI uh (TO.ext hs.aF) ?_))))));rw[rf,List.length_cons];refine fe (by omega) ?_;rw[show((TM.length+1:Nat):Int)-1=(TM.length:Int)from by omega];refine aO uh (TO.ext hs.aF) (by omega) (by rw[Int.toNat_natCast];exact E3) (λ q hq=>bW sv Kq hq rfl rfl (λ q2 JH=>aE jF JH (aO fo (FQ.ext hs.aF) (by omega) TN (λ q3 hq3=>aE eI hq3 (aM hs jq (λ b7 _ hs=>aJ (x:=(⟨y.kind,y.eC,y.name,ge,gf,y.n,y.body,y.eo,y.at_⟩:aZ)) hs eI rfl rfl (λ _ hs=>aA iO (aB (v:=.int .i64 y.body) bL hs.hb rfl (aK (by omega) (aA iw (aB (v:=.int .i64 y.eo) bL hs.hb rfl (aK (by omega) ?_))))))))))))
 have hs:=hs.drew;refine aE eI hs.At (Ml fo (FQ.ext hs.aF) (by omega) (by omega) (by omega) (λ s44 h44=>?_));obtain⟨awK,rfl⟩:=(h44 _ _ FQ).fC;refine Ml fo (FQ.ext hs.aF) (by omega) (by omega) (by omega) (λ s49 h49=>?_);obtain⟨awM,rfl⟩:=(h49 _ _ FQ).fC;refine aJ (x:=(⟨y.kind,y.eC,y.name,ge,gf,y.n,y.body,y.eo,y.at_⟩:aZ)) hs.p1 eI rfl rfl (λ _ hs=>aE eI hs.At ?_);refine⟨hs.drop.drop.aF,.inr ⟨y,a,b,_,awK,awM,(rows.take (1+y.body).toNat).drop (1:Int).toNat,(rows.take (1+y.body+y.eo).toNat).drop (1+y.body).toNat,rfl,rfl,λ w' hk=>(yu w' hk).2 0 _ y TN rfl,λ w2 h2=>?_⟩⟩;have h3:=h2.cons.1
 refine⟨?_,?_⟩
 ·have:=h3.cut h44;rw[aoW iL rfl]at this;exact this
 have:=h3.cut h49;rw[aoX iL rfl rfl]at this;exact this
theorem C197(K Φ:World->Prop)(p:Nat)(room:Int)(t:jP)(F:Nat->Prop)(w:World)(hF:(eL K Φ p room t).p w F)(hK:∀w',gq F w w'->K w')(oZ:t.cD.length<=100000) :
   CR 197 [.pointer (some ⟨p,0,none⟩)] w (λ v w'=>v=.tuple #[]/\mL F (eL K Φ p room {t with cD:=kc t.cD}) w w'):=by
 have hs:=St.begin hF;refine adr _ _ _ ?_;unfold S197;refine⟨λ m ev w1=>∃(en:Bool) (pd:PD),ev=.bool en/\m=pd.length+(if en then 0 else 1)/\pd.length<=100000/\kc t.cD=(if en=true then pd else kc pd)/\St w F [eL K Φ p room {t with cD:=pd}] w1,⟨_,false,t.cD,rfl,rfl,oZ,rfl,hs⟩,?_⟩;rintro m _ w1 ⟨en,pd,rfl,rfl,UM,hlv,hs⟩ _;obtain⟨bp,nv,rg,pl,es,hk,hs⟩:=eL.open hs;have hfz:=hs.p4.fk.1;have KB:=hfz.len
 change es.length=pd.length at KB
 refine⟨λ jv w'=>jv=.bool (!en&&decide (0<pd.length))/\w'=w1,?_,?_⟩
 ·refine bQ ?_;cases en with
  | true=>exact fm ⟨rfl,rfl⟩
  | false=>
   refine ig (aD (aA jE (aB rI hs.hb rfl (aI uh hs.p3.dX ?_))));rw[rf];refine cP ?_;exact⟨vb (by rw[Bool.not_false,Bool.true_and];exact decide_eq_decide.2 (by omega)),rfl⟩
 rintro _ _ ⟨rfl,rfl⟩ _;refine aW (λ c=>?_) (λ c=>?_);rotate_left
 ·have hd:kc t.cD=pd:=by
   rw[hlv];cases en with
   | true=>rfl
   | false=>
    have:pd=[]:=List.length_eq_zero_iff.1 (by have:=of_decide_eq_false (by simpa only[Bool.not_false,Bool.true_and]using c);omega);rw[this];rfl
  rw[hd];exact⟨rfl,(eL.shut (t:={t with cD:=pd}) hk hs).mut⟩
 rw[Bool.and_eq_true,Bool.not_eq_true',decide_eq_true_eq]at c;obtain⟨rfl,Cw⟩:=c;cases pd with
 | nil=>simp at Cw
 | cons q p'=>
 obtain⟨q1,e⟩:=q;obtain⟨sv,rows,TM,rfl,_,_⟩:=hfz.top;rw[List.length_cons,List.length_cons]at KB;rw[List.length_cons]at UM;refine aD (aA jE (aB rI hs.hb rfl (aI uh hs.p3.dX ?_)));rw[rf,List.length_cons];refine fe (by omega) ?_;rw[show((TM.length+1:Nat):Int)-1=(TM.length:Int)from by omega];refine aD (aA jE (aB rI hs.hb rfl (aO uh hs.p3.dX (by omega) (by rw[Int.toNat_natCast];exact E3) (λ q hq=>bW e VA hq rfl rfl (λ q2 JH=>aE zQ JH (aD (aA jE (aB rI hs.hb rfl (have hs:=hs.p3;Cl uh hs (by omega) (by rw[rf,List.length_cons];omega) (λ s25 hs=>?_))))))))))
 rw[Int.toNat_natCast,R3]at hs;refine aD (aA jE (aS hs.p1 rI (dI rfl) ((hs).dX.one) (λ _ hs=>have hs:=hs.p4.dU (Ψ:=λ w=>Da K w TM p'/\Φ w) (λ _ h=>⟨h.1.2,h.2⟩);have hs:=eL.shut (Φ:=Φ) (t:={t with cD:=p'}) hk hs.p2.p4.p4.p4;⟨_,?_,e,p',rfl,rfl,by omega,?_,hs⟩)))
 ·show p'.length+(if e=true then 0 else 1)<p'.length+1+1
  split<;>omega
 rw[hlv];rfl
theorem C161(K Φ:World->Prop)(p:Nat)(room:Int)(t:jP)(F:Nat->Prop)(lv:Value)(xs:List bX)(w:World)(hF:(eL K Φ p room t).p w F)(hK:∀w',gq F w w'->K w')(hL:dC (λ _=>True) w lv xs)(hn:xs.length<=1048576)(A3:t.names.length<=1048576) :
   CR 161 [.pointer (some ⟨p,0,none⟩),lv] w (λ v w'=>v=.tuple #[.int .i64 (eF t xs).1,.bool (eF t xs).2]/\mL F (eL K Φ p room {t with fault:=if (eF t xs).2=true then t.fault else 2}) w w'):=by
 have hs:=St.begin hF;refine ads _ _ _ _ ?_;unfold S161;refine aI gN hL (aH (aC (λ c=>?_) (λ c=>?_)))
 ·have hv:eF t xs=(0,true):=by unfold eF;rw[if_pos (by omega)]
  rw[hv];exact⟨rfl,hs.mut⟩
 have hv:eF t xs=((pA t.names t.dL xs).1,decide ((pA t.names t.dL xs).2=0)):=by unfold eF;rw[if_neg (by omega)]
 obtain⟨bp,nv,rg,pl,es,hk,hs⟩:=eL.open hs;have hs:=hs.drew;refine aD (aA zU (aB iZ hs.hb rfl (aD (aA zV (aB eg hs.hb rfl (aT afF hs (C143 _ _ _ xs t.names t.dL _ (hL.ext (Ext.drew w)) (hk _ (hK _ hs.aF)) hs.p2.dX hn A3) (λ _ he hs=>aN rfl (aN rfl ⟨λ w'=>St w F [eL K Φ p room {t with fault:=if (eF t xs).2=true then t.fault else 2}] w',bV (aC (λ c2=>?_) (λ c2=>?_)),?_⟩))))))))
 ·refine aD (aA wj (aS hs bL (dI rfl) rfl (λ _ hs=>?_)));have ht:{t with fault:=2}={t with fault:=if (eF t xs).2=true then t.fault else 2}:=by rw[hv];dsimp only;rw[decide_eq_false c2];rfl
  rw[<- ht];exact eL.shut (t:={t with fault:=2}) hk hs
 ·have ht:t={t with fault:=if (eF t xs).2=true then t.fault else 2}:=by rw[hv];dsimp only;rw[decide_eq_true (by omega)];rfl
  rw[<- ht];exact eL.shut hk hs
 intro _ hs _;exact aH ⟨by rw[hv],hs.mut⟩
theorem eL.aiQ{w w0:World}{A:Nat->Prop}{R:List HP}{p:Nat}{K Φ Ψ:World->Prop}{room:Int}{t:jP}(hs:St w0 A (fk Ψ::eL K Φ p room t::R) w):St w0 A (eL K (λ w=>Φ w/\Ψ w) p room t::R) w:=by
 obtain⟨bp,nv,rg,pl,es,hk,hs⟩:=eL.open hs.p1
 have h1:=((hs.p5).p5.gR).dU (Ψ:=λ w=>Da K w es t.cD/\Φ w/\Ψ w) λ w h=>⟨h.1.1,h.1.2,h.2⟩
 exact eL.shut hk h1.p4.p4.p4.p4
theorem jh.cons{w:World}{t:aZ}{x:bN}{ts:List aZ}{xs:List bN}(h:Deep.dr w t x)(hs:jh ts xs w):jh (t::ts) (x::xs) w:=by
 refine⟨by simp[hs.1],λ i t' x' h1 h2=>?_⟩
 cases i with
 | zero=>simp at h1 h2;subst h1 h2;exact h
 | succ i=>exact hs.2 i t' x' (by simpa using h1) (by simpa using h2)
theorem Ph(x:bN)(a:Bk):(Bk.cons x a .nil .nil).flat=x::a.flat:=by simp[Bk.flat]
theorem C196(K Φ:World->Prop)(p:Nat)(room:Int)(t:jP)(F:Nat->Prop)(x:bN)(xv:aZ)(av:SV)(ra:List aZ)(a b r:Bk)(e:Bool)(p':PD)(w:World)(hF:(eL K Φ p room t).p w F)(hK:∀w',gq F w w'->K w')(A0:t.cD=(.cons x a b r,e)::p')(iL:(Bk.cons x a b r).str)(oZ:t.cD.length<=90000)
   (zB:∀w,K w->Deep.dr w xv x) (hΦ:∀w,Φ w->qR K av ra a.flat w) (hn:0<=x.n/\x.n<=1000) :
   CR 196 [.pointer (some ⟨p,0,none⟩),Flat.val xv,Flat.val av] w (λ v w'=>v=.tuple #[]/\mL F (eL K Φ p room {t with cD:=mz x a t.cD}) w w'):=by
 have hs:=St.begin hF;obtain⟨ge,gf,rfl,_,_⟩:=iV (zB _ (hK _ hs.aF));have Tg:a.flat.length<=40:=by rw[Bk.cY];exact iL.2.2.1
 have hppl:(gn t.cD).length<=90001:=by
  rw[A0];show(jl r false p').length<=_;rw[A0,List.length_cons]at oZ;cases r with
  | nil=>show p'.length<=_;omega
  | cons _ _ _ _=>show p'.length+1<=_;omega
 refine eS Tryz.func196 ?_;refine cI (x:=(⟨x.kind,x.eC,x.name,ge,gf,x.n,x.body,x.eo,x.at_⟩:aZ)) hs (λ b4 _ hs=>bD Mj hs.p1 (H':=λ _=>eL K (Φ) p room {t with cD:=gn (t).cD}) (Φ:=λ _ _=>True) (λ F2 dY dW=>?_) ?_)
 ·exact(C164 K _ p room (t) F2 x a b r e p' _ dY (λ w' hc=>hK w' (dW w' hc).aF) A0 iL (by omega)).mono λ _ _ r=>r.mono λ _ _ h=>⟨trivial,h.2⟩
 rintro _ _ _ hs;refine aA jG (aB (v:=.int .i64 x.n) bL hs.p1.hb rfl (aH (aC (λ c=>?_) (λ c=>?_))))
 ·rw[show mz x a t.cD=gn t.cD from by unfold mz;rw[if_pos c]];exact⟨rfl,(hs.p1).drop.mut⟩
 rw[show mz x a t.cD=jl a false ((.cons {x with n:=x.n-1} a .nil .nil,true)::gn t.cD)from by unfold mz;rw[if_neg c]];refine aE eI hs.p1.At (aX (([⟨x.kind,x.eC,x.name,ge,gf,x.n,x.body,x.eo,x.at_⟩]:List aZ)) hs fo rfl rfl (dI rfl) (λ s13 _ hs=>?_));have hra:=hΦ _ (eL.now hs.p1);have hral:=(hra.1 _ (hK _ hs.aF)).1;refine bI hs fo (hra.2 (hK _ hs.aF)) (by simp;omega) (by decide) (λ s15 _ hs=>dM hs fo (by omega) (by simp) (λ q17 h17=>mf jG h17 (λ q18 h18=>nz (x.n:Int) hs bL h18 (x:=(⟨x.kind,x.eC,x.name,ge,gf,x.n,x.body,x.eo,x.at_⟩:aZ)) rfl rfl (fe (by omega) (dM hs fo (by omega) (by simp) (λ q21 h21=>mf jG h21 (λ q22 h22=>VX (x:=(⟨x.kind,x.eC,x.name,ge,gf,x.n,x.body,x.eo,x.at_⟩:aZ)) (⟨x.kind,x.eC,x.name,ge,gf,x.n-1,x.body,x.eo,x.at_⟩:aZ) (x.n-1:Int) hs bL h22 rfl (by decide) rfl (λ _ hs=>?_))))))))
 obtain⟨aiR,rfl⟩:=(hs).dX.fC;have hs:=eL.aiQ hs.freeze
 have ahd:∀w',K w'->jh (((⟨x.kind,x.eC,x.name,ge,gf,x.n,x.body,x.eo,x.at_⟩:aZ)::ra).set (0:Int).toNat (⟨x.kind,x.eC,x.name,ge,gf,x.n-1,x.body,x.eo,x.at_⟩:aZ)) (Bk.cons {x with n:=x.n-1} a .nil .nil).flat w':=λ w' hw=>by
  rw[Ph];obtain⟨_,_,h4,h5,h6⟩:=zB w' hw;cases h4
  exact jh.cons ⟨ge,gf,rfl,h5,h6⟩ (hra.1 w' hw)
 refine bD Mi hs (H':=λ _=>eL K (λ w=>Φ w/\dC (λ _=>True) w (Flat.val aiR) (([(⟨x.kind,x.eC,x.name,ge,gf,x.n,x.body,x.eo,x.at_⟩:aZ)]++ra).set (0:Int).toNat (⟨x.kind,x.eC,x.name,ge,gf,x.n-1,x.body,x.eo,x.at_⟩:aZ))) p room { {t with cD:=gn t.cD}with cD:=jl (Bk.cons {x with n:=x.n-1} a .nil .nil) true ({t with cD:=gn t.cD}).cD}) (Φ:=λ _ _=>True) (λ F2 dY dW=>?_) ?_
 ·exact(C116 K _ p room ({t with cD:=gn t.cD}) F2 aiR _ (Bk.cons {x with n:=x.n-1} a .nil .nil) true _ dY (λ w' hc=>hK w' (dW w' hc).aF) (λ _ h=>⟨ahd,λ _=>h.2⟩) (by show(gn t.cD).length<=_;omega)).mono λ _ _ r=>r.mono λ _ _ h=>⟨trivial,h.2⟩
 rintro _ _ _ hs;refine bD Mi hs (H':=λ _=>eL K (λ w=>Φ w/\dC (λ _=>True) w (Flat.val aiR) (([(⟨x.kind,x.eC,x.name,ge,gf,x.n,x.body,x.eo,x.at_⟩:aZ)]++ra).set (0:Int).toNat (⟨x.kind,x.eC,x.name,ge,gf,x.n-1,x.body,x.eo,x.at_⟩:aZ))) p room { {t with cD:=(.cons {x with n:=x.n-1} a .nil .nil,true)::gn t.cD}with cD:=jl a false ({t with cD:=(.cons {x with n:=x.n-1} a .nil .nil,true)::gn t.cD}).cD}) (Φ:=λ _ _=>True) (λ F2 dY dW=>?_) ?_
 ·exact(C116 K _ p room ({t with cD:=(.cons {x with n:=x.n-1} a .nil .nil,true)::gn t.cD}) F2 av ra a false _ dY (λ w' hc=>hK w' (dW w' hc).aF) (λ w h=>hΦ w h.1) (by show(gn t.cD).length+1<=_;omega)).mono λ _ _ r=>r.mono λ _ _ h=>⟨trivial,h.2⟩
 rintro _ _ _ hs;exact⟨rfl,(eL.mono (hs.p1).drop (λ _ h=>h.1)).mut⟩
theorem C117(K:World->Prop)(p:Nat)(room:Int)(t tR:jP)(n:Nat)(cs ls:List ByteArray)(F:Nat->Prop)(w:World)(hF:(rh K p room t).p w F)(hK:∀w',gq F w w'->K w')(ki:xI cs ls t)(hg:sO n t=some tR) :
   CR 117 [.pointer (some ⟨p,0,none⟩)] w (λ v w'=>v=.tuple #[]/\mL F (rh K p room tR) w w'):=by
 have hs:=St.begin hF;refine adt _ _ _ ?_;unfold S117;refine⟨λ mm w'=>∃t1:jP,sO mm t1=some tR/\xI cs ls t1/\St w F [rh K p room t1] w',⟨n,t,hg,ki,hs⟩,?_⟩;rintro mm _ ⟨t1,A6,wX,hs⟩ _;obtain⟨k,rfl⟩:=Hf A6;have oZ:=C7 wX.p;have Ew:=wX.cl;have YA:=wX.nb;have F4:=wX.rl;obtain⟨bp,nv,rg,pl,es,hk,hs⟩:=eL.open hs;refine dN Yy (C137 K p t1 bp nv rg pl es _ _ hs.hb hs.p3.dX hs.p4.fk.1 (λ _ e=>hK _ (hs.aF.then e)) wX.p (by omega)) ?_;rintro v _ ⟨he,hv⟩;have hs:=hs.ext he
 rcases hv with⟨eD,rfl⟩|⟨x,a,b,xv,av,bv,ra,rb,BM,rfl,zB,hab⟩
 ·refine aN rfl (aN rfl (aN rfl (aN rfl (aM hs jq (λ b2 w3 hs=>aJ (x:=(⟨0,⟨#[]⟩,⟨#[]⟩,cH,cH,0,0,0,0⟩:aZ)) hs eI rfl rfl (λ w4 hs=>bQ (ig ?_)))))));rw[oS A6 (Yt eD)];exact⟨rfl,(eL.shut hk hs.drop).mut⟩
 obtain⟨ge,gf,rfl,_,_⟩:=iV (zB _ (hK _ hs.aF))
 have Pj:∀w,K w->dC (λ _=>True) w (Flat.val ge) x.e/\dC (λ _=>True) w (Flat.val gf) x.f:=λ w hw=>by
  obtain⟨_,_,h4,h5,h6⟩:=iV (zB w hw);cases h4
  exact⟨h5,h6⟩
 obtain⟨hx,sa,sb,aa,ab,JE,hb2,Tg,r,e,p',A0,sr,ar⟩:=wX.top BM;have iL:(Bk.cons x a b r).str:=wX.p.st _ (by rw[A0];exact List.mem_cons_self ..);have hxe:=hx.e;have hs:=(hs.p4).dU (Ψ:=λ w=>Da K w es t1.cD/\(qR K av ra a.flat w/\qR K bv rb b.flat w)) (λ w h=>⟨h.1,hab w h.1⟩);have hs:=eL.shut (Φ:=λ w=>qR K av ra a.flat w/\qR K bv rb b.flat w) (t:=t1) hk hs.p4.p4.p4.p4;refine aN rfl (aN rfl (aN rfl (aN rfl (aM hs jq (λ b2 w3 hs=>aJ (x:=(⟨x.kind,x.eC,x.name,ge,gf,x.n,x.body,x.eo,x.at_⟩:aZ)) hs eI rfl rfl (λ w4 hs=>bQ (fm (aA iN (aB (v:=Flat.val ge) jo hs.hb rfl (bD Mk hs.p1 (H':=λ _=>eL K (λ w=>qR K av ra a.flat w/\qR K bv rb b.flat w) p room {t1 with fault:=if (eF t1 x.e).2=true then t1.fault else 2}) (Φ:=λ v _=>v=.tuple #[.int .i64 (eF t1 x.e).1,.bool (eF t1 x.e).2]) (λ F2 dY dW=>?_) ?_))))))))))
 ·exact C161 K _ p room t1 F2 _ x.e _ dY (λ w' hc=>hK w' (dW w' hc).aF) (Pj _ (hK _ hs.aF)).1 (by omega) (by omega)
 rintro _ w5 rfl hs;refine aN rfl (aN rfl (bQ (aW (λ c1=>?_) (λ c1=>?_))))
 ·have h1:(eF t1 x.e).2=false:=by simpa using c1
  rw[h1]at hs;rw[oS A6 (Yu BM h1)];exact⟨rfl,(eL.mono (hs.p1).drop (λ _ _=>trivial)).mut⟩
 have h1:(eF t1 x.e).2=true:=by simpa using c1
 replace hs:St w F [eL K (λ w=>qR K av ra a.flat w/\qR K bv rb b.flat w) p room t1,bY b2 (Flat.enc (⟨x.kind,x.eC,x.name,ge,gf,x.n,x.body,x.eo,x.at_⟩:aZ))] w5:=by rw[h1]at hs;exact hs
 refine aA jU (aB (v:=Flat.val gf) jo hs.p1.hb rfl (bD Mk hs (H':=λ _=>eL K (λ w=>qR K av ra a.flat w/\qR K bv rb b.flat w) p room {t1 with fault:=if (eF t1 x.f).2=true then t1.fault else 2}) (Φ:=λ v _=>v=.tuple #[.int .i64 (eF t1 x.f).1,.bool (eF t1 x.f).2]) (λ F2 dY dW=>?_) ?_))
 ·exact C161 K _ p room t1 F2 _ x.f _ dY (λ w' hc=>hK w' (dW w' hc).aF) (Pj _ (hK _ hs.aF)).2 (by omega) (by omega)
 rintro _ w6 rfl hs;refine aN rfl (aN rfl (bQ (aW (λ c2=>?_) (λ c2=>?_))))
 ·have h2:(eF t1 x.f).2=false:=by simpa using c2
  rw[h2]at hs;rw[oS A6 (Yv BM h2)];exact⟨rfl,(eL.mono (hs.p1).drop (λ _ _=>trivial)).mut⟩
 have h2:(eF t1 x.f).2=true:=by simpa using c2
 replace hs:St w F [eL K (λ w=>qR K av ra a.flat w/\qR K bv rb b.flat w) p room t1,bY b2 (Flat.enc (⟨x.kind,x.eC,x.name,ge,gf,x.n,x.body,x.eo,x.at_⟩:aZ))] w6:=by rw[h2]at hs;exact hs
 have hgk:=Yw BM h1 h2
 have vI:∀(t2:jP) (w':World),qq t1 x a b (eF t1 x.e).1=(t2,true)->St w F [eL K (λ w=>qR K av ra a.flat w/\qR K bv rb b.flat w) p room t2,bY b2 (Flat.enc (⟨x.kind,x.eC,x.name,ge,gf,x.n,x.body,x.eo,x.at_⟩:aZ))] w'->∃m',m'<k+1/\∃t1:jP,sO m' t1=some tR/\xI cs ls t1/\St w F [rh K p room t1] w':=λ t2 w' h3 h4=>by
  have h5:=hgk.trans h3;obtain⟨h6,h7,_⟩:=C8 wX;rw[h5]at h6 h7;exact⟨k,Nat.lt_succ_self k,t2,RW A6 h5,h6,eL.mono (h4.p1).drop (λ _ _=>trivial)⟩
 refine aA dJ (aB (v:=.int .i64 x.kind) bL hs.p1.hb rfl (aH (aC (λ k1=>?_) (λ k1=>?_))))
 ·have hpm:=dH.1 (hx.rg (.inl k1));obtain⟨j,hj,BA,_⟩:=lF hpm;have Dt:=(List.getElem?_eq_some_iff.1 BA).1;obtain⟨bp,nv,rg,pl,es,hk,hs⟩:=eL.open hs;have hs:=hs.drew;refine aD (aA zV (aB eg hs.hb rfl (aD (aA zU (aB iZ hs.hb rfl (aA iv (aB (v:=.string x.eC) gj hs.p5.hb rfl (aT GU hs (C159 _ t1.names x.eC _ (hk _ (hK _ hs.aF)) (by omega)) (λ _ he hs=>?_)))))))));refine⟨aG eg (hs.hb.cell rfl),?_⟩;refine dM hs.p2 cM (by omega) (by omega) (λ q51 h51=>jm (eF t1 x.e).1 hs.p2 bL h51 (by omega) (λ _ hs=>have hs:=eL.shut (Φ:=λ w=>qR K av ra a.flat w/\qR K bv rb b.flat w) (t:=oR t1 x.eC (eF t1 x.e).1) hk ((hs.p2).p2);bD Mj hs (H':=λ _=>eL K (λ w=>qR K av ra a.flat w/\qR K bv rb b.flat w) p room {oR t1 x.eC (eF t1 x.e).1 with cD:=gn (oR t1 x.eC (eF t1 x.e).1).cD}) (Φ:=λ _ _=>True) (λ F2 dY dW=>?_) ?_))
  ·exact(C164 K _ p room (oR t1 x.eC (eF t1 x.e).1) F2 x a b r e p' _ dY (λ w' hc=>hK w' (dW w' hc).aF) A0 iL (by show t1.cD.length<=_;omega)).mono λ _ _ r=>r.mono λ _ _ h=>⟨trivial,h.2⟩
  rintro _ _ _ hs;exact vI _ _ (Ys k1) hs
 refine aH (aC (λ k2=>?_) (λ k2=>?_))
 ·refine bD Mj hs (H':=λ _=>eL K (λ w=>qR K av ra a.flat w/\qR K bv rb b.flat w) p room {t1 with cD:=gn (t1).cD}) (Φ:=λ _ _=>True) (λ F2 dY dW=>?_) ?_
  ·exact(C164 K _ p room (t1) F2 x a b r e p' _ dY (λ w' hc=>hK w' (dW w' hc).aF) A0 iL (by omega)).mono λ _ _ r=>r.mono λ _ _ h=>⟨trivial,h.2⟩
  rintro _ w10 _ hs;refine⟨λ jv w'=>jv=(if (eF t1 x.e).1=0 then Flat.val bv else Flat.val av)/\w'=w10,?_,?_⟩
  ·refine aH ?_;refine aC (λ c=>⟨(if_pos c).symm,rfl⟩) (λ c=>⟨(if_neg c).symm,rfl⟩)
  rintro _ _ ⟨rfl,rfl⟩ _
  have hpq:(gn t1.cD).length<=100000:=by
   have:=C7 wX.p.pop;have:=Pe A0;omega
  have e1:(if (eF t1 x.e).1=0 then Flat.val bv else Flat.val av)=Flat.val (if (eF t1 x.e).1=0 then bv else av):=by split<;>rfl
  rw[e1];refine bD Mi hs (H':=λ _=>eL K (λ w=>qR K av ra a.flat w/\qR K bv rb b.flat w) p room { {t1 with cD:=gn t1.cD}with cD:=jl (if (eF t1 x.e).1=0 then b else a) false ({t1 with cD:=gn t1.cD}).cD}) (Φ:=λ _ _=>True) (λ F2 dY dW=>?_) ?_
  ·exact(C116 K _ p room ({t1 with cD:=gn t1.cD}) F2 (if (eF t1 x.e).1=0 then bv else av) (if (eF t1 x.e).1=0 then rb else ra) (if (eF t1 x.e).1=0 then b else a) false _ dY (λ w' hc=>hK w' (dW w' hc).aF) (λ _ h=>by split;exact h.2;exact h.1) (hpq)).mono λ _ _ r=>r.mono λ _ _ h=>⟨trivial,h.2⟩
  rintro _ _ _ hs;exact vI _ _ (I4 k2) hs
 refine aH (aC (λ k3=>?_) (λ k3=>?_))
 ·refine aE eI hs.p1.At (bD ap0 hs (H':=λ _=>eL K (λ w=>qR K av ra a.flat w/\qR K bv rb b.flat w) p room {t1 with cD:=mz x a t1.cD}) (Φ:=λ _ _=>True) (λ F2 dY dW=>?_) ?_)
  ·exact(C196 K _ p room t1 F2 x ⟨x.kind,x.eC,x.name,ge,gf,x.n,x.body,x.eo,x.at_⟩ av ra a b r e p' _ dY (λ w' hc=>hK w' (dW w' hc).aF) A0 iL (by omega) zB (λ _ h=>h.1) (hx.n k3)).mono λ _ _ r=>r.mono λ _ _ h=>⟨trivial,h.2⟩
  rintro _ _ _ hs;exact vI _ _ (RY k3) hs
 refine aH (aC (λ k4=>?_) (λ k4=>?_))
 ·refine bD ap1 hs (H':=λ _=>eL K (λ w=>qR K av ra a.flat w/\qR K bv rb b.flat w) p room {t1 with cD:=kc t1.cD}) (Φ:=λ _ _=>True) (λ F2 dY dW=>?_) ?_
  ·exact(C197 K _ p room t1 F2 _ dY (λ w' hc=>hK w' (dW w' hc).aF) (by omega)).mono λ _ _ r=>r.mono λ _ _ h=>⟨trivial,h.2⟩
  rintro _ _ _ hs;exact vI _ _ (RZ k4) hs
 refine aH (aC (λ k5=>?_) (λ k5=>?_))
 ·refine aH (aC (λ c=>?_) (λ c=>?_))
  ·obtain⟨bp,nv,rg,pl,es,hk,hs⟩:=eL.open hs;refine aD (aA wj (aS hs bL (dI rfl) rfl (λ _ hs=>?_)));have hs:=eL.shut (Φ:=λ w=>qR K av ra a.flat w/\qR K bv rb b.flat w) (t:={t1 with fault:=1}) hk hs;rw[oS A6 (hgk.trans (Mg k5 c))];exact⟨rfl,(eL.mono (hs.p1).drop (λ _ _=>trivial)).mut⟩
  refine bD Mj hs (H':=λ _=>eL K (λ w=>qR K av ra a.flat w/\qR K bv rb b.flat w) p room {t1 with cD:=gn (t1).cD}) (Φ:=λ _ _=>True) (λ F2 dY dW=>?_) ?_
  ·exact(C164 K _ p room (t1) F2 x a b r e p' _ dY (λ w' hc=>hK w' (dW w' hc).aF) A0 iL (by omega)).mono λ _ _ r=>r.mono λ _ _ h=>⟨trivial,h.2⟩
  rintro _ _ _ hs;exact vI _ _ (Mh k5 c) hs
 rw[oS A6 (hgk.trans (R0 k1 k2 k3 k4 k5))];exact⟨rfl,(eL.mono (hs.p1).drop (λ _ _=>trivial)).mut⟩
variable (w:World) (K:Value->World->Prop)
def awN:dD:=λ i=>match i with
 | 8=>(.of [(0,[]),(1,[]),(2,[]),(3,[]),(4,[]),(5,[]),(6,[]),(7,[]),(8,[]),(9,[]),(10,[]),(11,[]),(12,[]),(13,[]),(14,[7]),(15,[]),(16,[]),(17,[]),(18,[]),(19,[])])
 | _=>.nil
def S160(s0 t1 a lI:Value):Prop:=
 rC Tryz.prog (Instr.box 193 a) w λ b c=>aL 56 c λ d e=>nC t1 λ f=>fA 138 f 0 λ g=>lA 88 g e λ h=>cF 226 [h,lI] e λ j k=>xT j 0 λ l=>xT j 1 λ n=>Gk (λ K1=>
 eN Tryz.prog (Op.unary .not n) λ o=>cV o (nC s0 λ p=>fA 96 p 4 λ q=>lA 93 q k λ s=>cF 227 [s,lI] k λ t u=>xT t 0 λ v=>xT t 1 λ _=>K1 v (i 1) u) (K1 l (i 2) k))
 (λ n9 aiU x=>∀_:Env,
 nC t1 λ y=>fA 138 y 2 λ z=>lA 41 z (drew x) λ aa=>nC t1 λ ab=>fA 138 ab 1 λ ac=>lA 91 ac (drew x) λ ad=>fA 193 b 1 λ ae=>lA 9 ae (drew x) λ af=>cF 159 [ad,af] (drew x) λ ag ah=>
 kA 41 z aa ah (iA 41 aa ag λ ai=>sA 3 ai n9 ah λ aj=>eN Tryz.prog (Instr.build 56 [(0,aiU),(2,lI),(3,n9)].toArray) λ ak=>sA 56 d ak aj λ al=>lA 56 d al λ r=>
 K r al))
def awO:dD:=λ i=>match i with
 | 6=>(.of [(0,[]),(1,[]),(2,[]),(3,[]),(4,[]),(5,[]),(6,[]),(7,[]),(8,[]),(9,[]),(11,[]),(10,[3]),(12,[]),(13,[])])
 | _=>.nil
theorem adu(s0 t1 x2 lI:Value)(h:S160 w K s0 t1 x2 lI):CR 160 [s0,t1,x2,lI] w K:=
 qz 49 awO 256 [.cell 8 56] Tryz.func160 h
def S163(s0 t1 a lI:Value):Prop:=
 rC Tryz.prog (Instr.box 193 a) w λ b c=>aL 56 c λ d e=>nC s0 λ f=>fA 96 f 4 λ g=>lA 93 g e λ h=>cF 227 [h,lI] e λ j k=>xT j 0 λ l=>xT j 1 λ _=>fA 193 b 3 λ n=>
 lA 82 n k λ o=>cF 161 [t1,o] k λ p q=>xT p 0 λ s=>xT p 1 λ _=>fA 193 b 4 λ t=>lA 82 t q λ u=>cF 161 [t1,u] q λ v x=>xT v 0 λ y=>xT v 1 λ _=>nC t1 λ z=>
 fA 138 z 2 λ aa=>lA 41 aa (drew x) λ ab=>nC t1 λ ac=>fA 138 ac 1 λ ad=>lA 91 ad (drew x) λ ae=>fA 193 b 1 λ af=>lA 9 af (drew x) λ ag=>cF 159 [ae,ag] (drew x) λ ah ai=>
 kA 41 aa ab ai (iA 41 ab ah λ aj=>sA 3 aj l ai λ ak=>bA .neq 3 l s λ al=>cV al (eN Tryz.prog (Instr.build 56 [(0,(i 9)),(2,lI),(3,l)].toArray) λ am=>sA 56 d am ak λ an=>
 lA 56 d an λ r=>K r an) (nC s0 λ ao=>fA 96 ao 4 λ ap=>lA 93 ap ak λ aq=>cF 156 [aq,lI,y] ak λ _ ar=>eN Tryz.prog (Instr.build 56 [(0,(i 8)),(2,lI),(3,l),(4,y)].toArray) λ asx=>
 sA 56 d asx ar λ au=>lA 56 d au λ HY=>K HY au))
def awP:dD:=λ i=>match i with
 | 4=>(.of [(0,[]),(1,[]),(2,[]),(3,[]),(4,[]),(5,[]),(6,[]),(7,[]),(8,[]),(9,[]),(11,[]),(10,[3]),(12,[]),(13,[])])
 | _=>.nil
theorem adv(s0 t1 x2 lI:Value)(h:S163 w K s0 t1 x2 lI):CR 163 [s0,t1,x2,lI] w K:=
 qz 68 awP 256 [.cell 8 56] Tryz.func163 h
def S91(s0 i1:Value):Prop:=
 aL 56 w λ a b=>nC s0 λ c=>fA 96 c 6 λ d=>lA 94 d b λ e=>iA 94 e i1 λ f=>lA 135 f b λ g=>nC g λ h=>fA 138 h 4 λ j=>lA 3 j b λ k=>bB .neq 3 k (i 0) λ l=>
 cV l (nC g λ n=>fA 138 n 4 λ o=>lA 3 o b λ p=>cF 158 [s0,i1,p] b λ q s=>sA 56 a q s λ t=>lA 56 a t λ r=>K r t) (cF 137 [g] b λ u v=>xT u 0 λ x=>xT u 1 λ _=>
 xT u 2 λ _=>xT u 3 λ _=>aL 193 v λ y z=>sA 193 y x z λ aa=>nC s0 λ ab=>fA 96 ab 1 λ ac=>lA 91 ac (drew aa) λ ad=>fA 193 y 2 λ ae=>lA 9 ae (drew aa) λ af=>
 nC s0 λ ag=>fA 96 ag 2 λ ah=>lA 91 ah (drew aa) λ ai=>fA 193 y 2 λ aj=>lA 9 aj (drew aa) λ ak=>cF 159 [ad,af] (drew aa) λ al am=>kA 91 ah ai am (kA 9 aj ak am (
 cF 159 [ai,ak] am λ an ao=>nC s0 λ ap=>fA 96 ap 0 λ aq=>lA 27 aq ao λ ar=>cF 52 [ar,al] ao λ asx au=>aL 56 au λ YB av=>yc (λ K1=>fA 193 y 0 λ aw=>lA 3 aw av λ ax=>
 bB .eql 3 ax (i 2) λ ay=>cV ay (lA 193 y av λ az=>cF 160 [s0,g,az,al] av λ a0 a1=>sA 56 YB a0 a1 λ a2=>K1 a2) (bB .eql 3 ax (i 3) λ a3=>cV a3 (fA 193 y 3 λ a4=>
 lA 82 a4 av λ a5=>cF 161 [g,a5] av λ a6 a7=>xT a6 0 λ a8=>xT a6 1 λ _=>nC g λ a9=>fA 138 a9 0 λ ba=>lA 88 ba a7 λ bb=>eN Tryz.prog (Instr.build 231 [(0,(i 3)),(1,asx),(2,al),(3,a8)].toArray) λ bc=>
 cF 162 [bb,bc] a7 λ _ bd=>eN Tryz.prog (Instr.build 56 [(0,(i 3)),(2,al),(3,a8)].toArray) λ be=>sA 56 YB be bd λ bf=>K1 bf) (bB .eql 3 ax (i 5) λ bg=>cV bg (nC g λ bh=>
 fA 138 bh 0 λ bi=>lA 88 bi av λ bj=>eN Tryz.prog (Instr.build 231 [(0,(i 5)),(1,asx)].toArray) λ bk=>cF 162 [bj,bk] av λ _ bl=>eN Tryz.prog (Instr.build 56 [(0,(i 4)),(2,asx)].toArray) λ bm=>
 sA 56 YB bm bl λ bn=>K1 bn) (bB .eql 3 ax (i 6) λ bo=>cV bo (nC g λ bp=>fA 138 bp 0 λ bq=>lA 88 bq av λ br=>eN Tryz.prog (Instr.build 231 [(0,(i 6)),(1,asx)].toArray) λ bs=>
 cF 162 [br,bs] av λ _ bt=>eN Tryz.prog (Instr.build 56 [(0,(i 5)),(2,asx)].toArray) λ bu=>sA 56 YB bu bt λ bv=>K1 bv) (bB .eql 3 ax (i 7) λ bw=>cV bw (nC g λ bx=>
 fA 138 bx 0 λ bz=>lA 88 bz av λ b0=>eN Tryz.prog (Instr.build 231 [(0,(i 7))].toArray) λ b1=>cF 162 [b0,b1] av λ _ b2=>eN Tryz.prog (Instr.build 56 [(0,(i 6))].toArray) λ b3=>
 sA 56 YB b3 b2 λ b4=>K1 b4) (bB .eql 3 ax (i 8) λ b5=>cV b5 (eN Tryz.prog (Instr.build 56 [(0,(i 7))].toArray) λ b6=>sA 56 YB b6 av λ b7=>K1 b7) (bB .eql 3 ax (i 4) λ b8=>
 cV b8 (lA 193 y av λ b9=>cF 163 [s0,g,b9,al] av λ ca cb=>sA 56 YB ca cb λ cc=>K1 cc) (bB .eql 3 ax (i 9) λ cd=>cV cd (nC s0 λ ce=>fA 96 ce 5 λ cf=>lA 41 cf av λ cg=>
 iA 41 cg an λ ch=>sA 3 ch i1 av λ ci=>eN Tryz.prog (Instr.build 56 [(0,(i 10)),(2,an)].toArray) λ cj=>sA 56 YB cj ci λ ck=>K1 ck) (nC s0 λ cl=>fA 96 cl 5 λ cm=>
 lA 41 cm av λ cn=>iA 41 cn an λ co=>lA 3 co av λ cp=>bA .neq 3 cp i1 λ cq=>cV cq (cF 158 [s0,i1,(i 3)] av λ cr cs=>sA 56 a cr cs λ ct=>lA 56 a ct λ HY=>K HY ct) (
 nC s0 λ cu=>fA 96 cu 5 λ cv=>lA 41 cv av λ cw=>iA 41 cw an λ cx=>sA 3 cx (i (-1)) av λ cy=>eN Tryz.prog (Instr.build 56 [(0,(i 11)),(2,an)].toArray) λ cz=>sA 56 YB cz cy λ c0=>
 K1 c0)))))))))) (λ c1=>∀_:Env,
 fA 56 YB 1 λ c2=>sA 3 c2 i1 c1 λ c3=>cF 164 [g] c3 λ _ c4=>cF 117 [g] c4 λ _ c5=>lA 56 YB c5 λ c6=>sA 56 a c6 c5 λ c7=>lA 56 a c7 λ NV=>K NV c7))))
def P91:dD:=λ i=>match i with
 | 5=>(.of [(0,[]),(1,[]),(2,[]),(3,[]),(4,[]),(5,[]),(7,[]),(8,[]),(9,[]),(10,[]),(11,[]),(12,[]),(6,[10,12]),(13,[]),(14,[]),(15,[])])
 | _=>.nil
theorem aiV(s0 i1:Value)(h:S91 w K s0 i1):CR 91 [s0,i1] w K:=
 qz 171 P91 16 [.cell 4 56] Tryz.func91 h
def P90:dD:=λ i=>match i with
 | 1=>(.op 0 [] (.op 1 [] (.op 2 [] (.op 3 [] (.op 4 [] (.op 5 [] (.op 6 [] (.op 7 [] (.op 8 [] (.op 9 [] (.op 10 [] (.op 11 [] (.op 12 [] (.alt 13 [] (.of [(14,[]),(15,[]),(16,[]),(17,[3,5,7,10,12]),(18,[]),(19,[])]) (.alt 17 [3,5,7,10,12] (.of [(13,[]),(14,[]),(15,[]),(16,[]),(18,[]),(19,[])]) .stop)))))))))))))))
 | 4=>.run 0 9
 | 8=>.run 0 7
 | _=>.nil
def P56:dD:=λ i=>match i with
 | 9=>(.of [(0,[]),(1,[]),(2,[]),(3,[]),(4,[]),(5,[]),(6,[2]),(7,[]),(8,[]),(9,[])])
 | _=>.nil
def P24:dD:=λ i=>match i with
 | 1=>.run 0 30
 | _=>.nil
def P68:dD:=λ i=>match i with
 | 2=>(.of [(0,[]),(1,[]),(2,[]),(3,[]),(4,[]),(5,[]),(6,[]),(7,[]),(8,[]),(9,[]),(10,[]),(11,[]),(12,[]),(13,[3,7,11]),(14,[])])
 | _=>.nil
def S70(s0:Value):Prop:=
 nC s0 λ a=>fA 96 a 0 λ b=>lA 27 b w λ c=>cF 54 [c] w λ d e=>nC s0 λ f=>fA 96 f 0 λ g=>fA 27 g 5 λ h=>lA 25 h e λ j=>lN 25 j λ k=>o8 (λ K1 aiW l n=>∀_:Env,
 bA .lss 3 l k λ o=>cV o (fc (λ K2=>iA 25 j l λ p=>lA 85 p n λ q=>aL 85 n λ c6 r=>sA 85 c6 q r λ s=>fA 85 c6 0 λ t=>lA 82 t (drew s) λ u=>nC s0 λ v=>fA 96 v 1 λ x=>
 lA 91 x (drew s) λ y=>eN Tryz.prog (Instr.sliceAt 91 y none (some d) none) λ z=>cF 72 [s0] (drew s) λ aa ab=>kA 82 t u ab (kA 91 x y ab (eN Tryz.prog (Instr.sliceAt 41 aa none (some d) none) λ ac=>
 cF 143 [u,z,ac] ab λ ad ae=>xT ad 0 λ af=>xT ad 1 λ ag=>bB .eql 31 ag (i 0) λ ah=>cV ah (bB .neq 3 af (i 0) λ ai=>bS 117 1 [(0,ai)] ae λ aj ak=>aP 117 aiW aj ak λ al am=>
 K2 al am) (bS 117 1 [(0,ff)] ae λ an ao=>aP 117 aiW an ao λ ap aq=>K2 ap aq)))) (λ aiX ar=>∀_:Env,
 bB .add 3 l (i 1) λ asx=>K1 aiX asx ar)) (K aiW n)) (λ K1=>K1 (.slice none 0 0) (i 0) e)
def P70:dD:=λ i=>match i with
 | 6=>(.of [(0,[]),(1,[]),(2,[]),(3,[]),(4,[]),(5,[]),(6,[]),(7,[]),(8,[]),(10,[]),(9,[1,5]),(11,[]),(12,[]),(13,[]),(14,[]),(15,[]),(16,[]),(17,[])])
 | _=>.nil
theorem aiY(s0:Value)(h:S70 w K s0):CR 70 [s0] w K:=
 qz 51 P70 4 [.tmp 2] Tryz.func70 h
def S12(p0 mA:Value):Prop:=
 rC Tryz.prog (Instr.box 27 p0) w λ p2 a=>lA 27 p2 a λ b=>cF 48 [b] a λ c d=>xT c 0 λ e=>xT c 1 λ _=>bB .neq 31 e (i 0) λ f=>cV f (K (.tuple #[(.pointer none),e]) d) (
 cF 49 [mA] d λ g h=>xT g 0 λ _=>xT g 1 λ j=>bB .neq 31 j (i 0) λ k=>cV k (K (.tuple #[(.pointer none),j]) h) (lA 27 p2 (drew h) λ l=>lA 27 p2 (drew h) λ n=>lA 27 p2 (drew h) λ o=>
 cF 50 [n] (drew h) λ p q=>kA 27 p2 l q (kA 27 p2 o q (cF 51 [o] q λ r s=>kA 27 p2 l s (eN Tryz.prog (Instr.build 96 [(0,l),(1,p),(2,r),(3,mA)].toArray) λ t=>rC Tryz.prog (Instr.box 96 t) s λ u v=>
 nC u λ x=>fA 96 x 1 λ y=>lA 91 y v λ z=>lN 91 z λ aa=>o8 (λ K1 ap8 ab ac=>∀_:Env,
 bA .lss 3 ab aa λ ad=>cV ad (lA 27 p2 ac λ ae=>cF 52 [ae,ab] ac λ af ag=>bS 41 1 [(0,af)] ag λ ah ai=>aP 41 ap8 ah ai λ aj ak=>bB .add 3 ab (i 1) λ al=>K1 aj al ak) (
 lA 27 p2 (drew ac) λ am=>lA 27 p2 (drew ac) λ an=>cF 54 [am] (drew ac) λ ao ap=>kA 27 p2 an ap (cF 55 [an] ap λ aq ar=>cF 53 [ap8,ao,aq] ar λ asx au=>xT asx 0 λ av=>
 xT asx 1 λ _=>nC u λ aw=>fA 96 aw 4 λ ax=>sA 93 ax av au λ ay=>fA 27 p2 3 λ az=>lA 24 az ay λ a0=>cF 56 [u,a0] ay λ _ a1=>K (.tuple #[u,(i 0)]) a1))) (λ K1=>K1 (.slice none 0 0) (i 0) v))))))
def P12:dD:=λ i=>match i with
 | 7=>(.of [(0,[]),(1,[]),(3,[]),(5,[]),(2,[0,3]),(4,[0]),(6,[]),(7,[]),(8,[])])
 | 14=>(.of [(0,[]),(1,[]),(2,[]),(4,[]),(3,[4]),(5,[]),(6,[]),(7,[]),(8,[]),(9,[]),(10,[]),(11,[]),(12,[])])
 | _=>.nil
theorem aiZ(p0 mA:Value)(h:S12 w K p0 mA):CR 12 [p0,mA] w K:=
 qz 69 P12 48 [.tmp 4,.tmp 5] Tryz.func12 h
def S87(Dx:Value):Prop:=
 lN 41 Dx λ a=>o8 (λ K1 n3 b c=>∀_:Env,
 bA .lss 3 b a λ d=>cV d (iA 41 Dx b λ e=>lA 3 e c λ f=>bB .mul 3 n3 (i 10000) λ g=>bA .add 3 g f λ h=>bB .add 3 b (i 1) λ j=>K1 h j c) (K n3 c)) (λ K1=>K1 (i 0) (i 0) w)
theorem ai0(Dx:Value)(h:S87 w K Dx):CR 87 [Dx] w K:=
 qz 18 (λ _=>.nil) 4 [.tmp 2] Tryz.func87 h
theorem ap9:PL 138:=dF Tryz.func138
theorem aqa:PL 67:=dF Tryz.func67
theorem agn:PL 158:=dF Tryz.func158
theorem aqb:PL 160:=dF Tryz.func160
theorem aqc:PL 163:=dF Tryz.func163
theorem awQ:PL 91:=dF Tryz.func91
theorem awR:PL 90:=dF Tryz.func90
theorem aqd:PL 56:=dF Tryz.func56
theorem awS:PL 24:=dF Tryz.func24
theorem awT:PL 88:=dF Tryz.func88
theorem aqe:PL 68:=dF Tryz.func68
theorem aqf:PL 140:=dF Tryz.func140
theorem ai1:PL 72:=dF Tryz.func72
theorem awU:PL 70:=dF Tryz.func70
theorem awV:PL 12:=dF Tryz.func12
theorem awW:PL 87:=dF Tryz.func87
theorem aqg:PL 142:=dF Tryz.func142
theorem aqh:PL 217:=dF Tryz.func217
end Go.Proofs.YtpdlpabnlkofmaaGreatDoor
namespace Go.Proofs.YtpdlpabnlkofmaaGreatDoor
open Go.Fw
theorem Hg(a0:Int)(a1:Int):pr Tryz.prog (Instr.build 50 [(0,.int .i64 a0),(1,.int .i64 a1)].toArray)=some (.agg [.int .i64 a0,.int .i64 a1,.int .i64 0,.slice none 0 0].toArray):=by kernel_rfl
theorem Cm(a0:Int)(a1:Int)(a2:Int):pr Tryz.prog (Instr.build 50 [(0,.int .i64 a0),(1,.int .i64 a1),(2,.int .i64 a2)].toArray)=some (.agg [.int .i64 a0,.int .i64 a1,.int .i64 a2,.slice none 0 0].toArray):=by kernel_rfl
theorem TP(a0:Int)(a3:Option Addr)(n3 c3:Nat):pr Tryz.prog (Instr.build 50 [(0,.int .i64 a0),(3,.slice a3 n3 c3)].toArray)=some (.agg [.int .i64 a0,.int .i64 0,.int .i64 0,.slice a3 n3 c3].toArray):=by kernel_rfl
theorem I7:pr Tryz.prog (Instr.build 56 [].toArray)=some (.agg [.int .i64 0,.int .i64 0,.int .i64 0,.int .i64 0,.int .i64 0].toArray):=by kernel_rfl
theorem I8(a0:Int):pr Tryz.prog (Instr.build 56 [(0,.int .i64 a0)].toArray)=some (.agg [.int .i64 a0,.int .i64 0,.int .i64 0,.int .i64 0,.int .i64 0].toArray):=by kernel_rfl
theorem Hh(a0:Int)(a1:Int):pr Tryz.prog (Instr.build 56 [(0,.int .i64 a0),(1,.int .i64 a1)].toArray)=some (.agg [.int .i64 a0,.int .i64 a1,.int .i64 0,.int .i64 0,.int .i64 0].toArray):=by kernel_rfl
theorem tn(a0:Int)(a1:Int)(a2:Int):pr Tryz.prog (Instr.build 56 [(0,.int .i64 a0),(1,.int .i64 a1),(2,.int .i64 a2)].toArray)=some (.agg [.int .i64 a0,.int .i64 a1,.int .i64 a2,.int .i64 0,.int .i64 0].toArray):=by kernel_rfl
theorem yw(a0:Int)(a1:Int)(a2:Int)(a3:Int):pr Tryz.prog (Instr.build 56 [(0,.int .i64 a0),(1,.int .i64 a1),(2,.int .i64 a2),(3,.int .i64 a3)].toArray)=some (.agg [.int .i64 a0,.int .i64 a1,.int .i64 a2,.int .i64 a3,.int .i64 0].toArray):=by kernel_rfl
theorem om(a0:Int)(a2:Int):pr Tryz.prog (Instr.build 56 [(0,.int .i64 a0),(2,.int .i64 a2)].toArray)=some (.agg [.int .i64 a0,.int .i64 0,.int .i64 a2,.int .i64 0,.int .i64 0].toArray):=by kernel_rfl
theorem mB(a0:Int)(a2:Int)(a3:Int):pr Tryz.prog (Instr.build 56 [(0,.int .i64 a0),(2,.int .i64 a2),(3,.int .i64 a3)].toArray)=some (.agg [.int .i64 a0,.int .i64 0,.int .i64 a2,.int .i64 a3,.int .i64 0].toArray):=by kernel_rfl
theorem yx(a0:Int)(a2:Int)(a3:Int)(a4:Int):pr Tryz.prog (Instr.build 56 [(0,.int .i64 a0),(2,.int .i64 a2),(3,.int .i64 a3),(4,.int .i64 a4)].toArray)=some (.agg [.int .i64 a0,.int .i64 0,.int .i64 a2,.int .i64 a3,.int .i64 a4].toArray):=by kernel_rfl
theorem Hi(a0:Int)(a3:Int):pr Tryz.prog (Instr.build 56 [(0,.int .i64 a0),(3,.int .i64 a3)].toArray)=some (.agg [.int .i64 a0,.int .i64 0,.int .i64 0,.int .i64 a3,.int .i64 0].toArray):=by kernel_rfl
theorem F5(Mm:Option Addr)(YC YD:Nat)(Mn:Option Addr)(YE YF:Nat)(Mp:Option Addr)(YG YH:Nat)(Mq:Option Addr)(Mr Ms:Nat)(Mt:Option Addr)(Mu Mv:Nat)(Mw:Option Addr)(YI YJ:Nat)(a1:Option Addr)(n1 c1:Nat)(a2:Option Addr)(n2 c2:Nat)(a3:Int):pr Tryz.prog (Instr.build 96 [(0,.agg [.slice Mm YC YD,.slice Mn YE YF,.slice Mp YG YH,.slice Mq Mr Ms,.slice Mt Mu Mv,.slice Mw YI YJ].toArray),(1,.slice a1 n1 c1),(2,.slice a2 n2 c2),(3,.int .i64 a3)].toArray)=some (.agg [.slice Mm YC YD,.slice Mn YE YF,.slice Mp YG YH,.slice Mq Mr Ms,.slice Mt Mu Mv,.slice Mw YI YJ,.slice a1 n1 c1,.slice a2 n2 c2,.int .i64 a3,.pointer none,.slice none 0 0,.slice none 0 0,.int .i64 0,.int .i64 0,.int .i64 0].toArray):=by kernel_rfl
theorem I9(a0:Int)(a1:Int)(a2:Int):pr Tryz.prog (Instr.build 114 [(0,.int .i64 a0),(1,.int .i64 a1),(2,.int .i64 a2)].toArray)=some (.agg [.int .i64 a0,.int .i64 a1,.int .i64 a2,.bool false,.bool false].toArray):=by kernel_rfl
theorem Ja(a0:Option Addr)(a1:Option Addr)(n1 c1:Nat)(a2:Option Addr)(n2 c2:Nat):pr Tryz.prog (Instr.build 138 [(0,.pointer a0),(1,.slice a1 n1 c1),(2,.slice a2 n2 c2)].toArray)=some (.agg [.pointer a0,.slice a1 n1 c1,.slice a2 n2 c2,.slice none 0 0,.int .i64 0].toArray):=by kernel_rfl
theorem vk(a0:Int)(a1:Int):pr Tryz.prog (Instr.build 231 [(0,.int .i64 a0),(1,.int .i64 a1)].toArray)=some (.agg [.int .i64 a0,.int .i64 a1,.int .i64 0,.int .i64 0].toArray):=by kernel_rfl
theorem wY(a0:Int)(a1:Int)(a2:Int)(a3:Int):pr Tryz.prog (Instr.build 231 [(0,.int .i64 a0),(1,.int .i64 a1),(2,.int .i64 a2),(3,.int .i64 a3)].toArray)=some (.agg [.int .i64 a0,.int .i64 a1,.int .i64 a2,.int .i64 a3].toArray):=by kernel_rfl
structure gW where
 p:cG
 room:Int
 mem:Mem
 eP:List Int
 l:List jP
 bZ:Int
 fault:Int
 iS:Int
structure DA where
 pv:bO
 cv:SV
 kv:SV
 q:Nat
 ov:Value
 fv:Value
 ow:Value
 ll:Value
 ps:List Ptr
@[reducible] def qF(a:DA)(s:gW):List Value:=[Flat.val a.pv.lines,Flat.val a.pv.iI,Flat.val a.pv.eG,Flat.val a.pv.threads,Flat.val a.pv.recover,Flat.val a.pv.dP,Flat.val a.cv,Flat.val a.kv,.int .i64 s.room,.pointer (some ⟨a.q,0,none⟩),a.ow,a.ll,.int .i64 s.bZ,.int .i64 s.fault,.int .i64 s.iS]
def ThK(K:World->Prop)(tv:cE)(t:cN):Prop:=∃(gr gb:SV) (rows:List aZ),tv=⟨t.name,gr,gb,t.at_⟩/\(∀w,K w->dC (λ _=>True) w (Flat.val gr) t.dL)/\∀w,qR K gb rows t.body w
def CF(K:World->Prop)(vl:List cE)(qE:List cN):Prop:=vl.length=qE.length/\∀(j:Nat) (tv:cE) (t:cN),vl[j]?=some tv->qE[j]?=some t->ThK K tv t
structure DUK(K:World->Prop)(a:DA)(s:gW):Prop where
 pr:∀w,K w->Deep.dr w a.pv s.p
 cs:∀w,K w->dC (λ _=>True) w (Flat.val a.cv) (cT s.p)
 ks:∀w,K w->dC (λ _=>True) w (Flat.val a.kv) (cL s.p)
 mem:∀w,K w->AH a.ov a.fv s.mem w
 rc:∃vl,(∀w,K w->dC (λ _=>True) w (Flat.val a.pv.recover) vl)/\CF K vl s.p.recover
abbrev xZ(K:World->Prop)(room:Int)(s:Ptr)(t:jP):HP:=rh K s.b room t
def gI(K:World->Prop)(p:Nat)(m:gW):HP:=qd λ a:DA=>fact (DUK K a m) (sep (bY p (qF a m)) (sep (iB a.q a.ov a.fv m.mem) (sep (bG a.ow m.eP) (sep (bG a.ll a.ps) (gS (xZ K m.room) a.ps m.l)))))
def mP(K:World->Prop)(p:Nat)(m:gW)(i:Nat)(tp:Ptr):HP:=qd λ a:DA=>fact (DUK K a m/\a.ps[i]?=some tp/\a.ps.length=m.l.length/\i<m.l.length) (sep (bY p (qF a m)) (sep (iB a.q a.ov a.fv m.mem) (sep (bG a.ow m.eP) (sep (bG a.ll a.ps) (nB (xZ K m.room) a.ps m.l i)))))
section
variable {w w' w0:World}{A:Nat->Prop}{R:List HP}{p:Nat}{K:World->Prop}{m:gW}{a:DA}{i:Nat}{tp:Ptr}{t:jP}
theorem gI.open(hs:St w0 A (gI K p m::R) w):∃a,DUK K a m/\St w0 A (bY p (qF a m)::iB a.q a.ov a.fv m.mem::bG a.ow m.eP::bG a.ll a.ps::gS (xZ K m.room) a.ps m.l::R) w:=by
 obtain⟨a,hs⟩:=hs.er;obtain⟨hu,hs⟩:=hs.me;exact⟨a,hu,so hs⟩
theorem gI.shut(hu:DUK K a m)(hs:St w0 A (bY p (qF a m)::iB a.q a.ov a.fv m.mem::bG a.ow m.eP::bG a.ll a.ps::gS (xZ K m.room) a.ps m.l::R) w):St w0 A (gI K p m::R) w:=
 St.et a (St.oc hu (sq hs))
theorem mP.open(hs:St w0 A (mP K p m i tp::R) w):∃a,(DUK K a m/\a.ps[i]?=some tp/\a.ps.length=m.l.length/\i<m.l.length)/\St w0 A (bY p (qF a m)::iB a.q a.ov a.fv m.mem::bG a.ow m.eP::bG a.ll a.ps::nB (xZ K m.room) a.ps m.l i::R) w:=by
 obtain⟨a,hs⟩:=hs.er;obtain⟨hu,hs⟩:=hs.me;exact⟨a,hu,so hs⟩
theorem mP.shut(hu:DUK K a m/\a.ps[i]?=some tp/\a.ps.length=m.l.length/\i<m.l.length)(hs:St w0 A (bY p (qF a m)::iB a.q a.ov a.fv m.mem::bG a.ow m.eP::bG a.ll a.ps::nB (xZ K m.room) a.ps m.l i::R) w):St w0 A (mP K p m i tp::R) w:=
 St.et a (St.oc hu (sq hs))
structure aqi(K:World->Prop)(w:World)(p:Nat)(m:gW)(a:DA):Prop where
 uk:DUK K a m
 b:ng w p (qF a m)
 mem:xY w a.q m.mem
 ow:dC (λ _=>True) w a.ow m.eP
 ll:dC (λ _=>True) w a.ll a.ps
 th:∀(i:Nat) (s:Ptr) (t:jP),a.ps[i]?=some s->m.l[i]?=some t->Has (rh K s.b m.room t) w
 len:a.ps.length=m.l.length
theorem gI.rd(h:Has (gI K p m) w)(hK:K w):∃a,aqi K w p m a:=by
 obtain⟨F,hs⟩:=h.st
 obtain⟨a,hu,hs⟩:=gI.open hs
 exact⟨a,hu,hs.hb,I1 hs.p1 (hu.mem _ hK),hs.p2.dX,hs.p3.dX,λ i s t h1 h2=>hs.p4.ahh h1 h2 (Φ:=λ w=>Has (rh K s.b m.room t) w) λ h=>⟨_,h⟩,hs.p4.iP⟩
theorem YK{ps:List Ptr}(hs:St w0 A (gS (xZ K m.room) ps m.l::R) w)(hp:ps[i]?=some tp)(ht:m.l[i]?=some t):St w0 A (rh K tp.b m.room t::nB (xZ K m.room) ps m.l i::R) w:=hs.focus hp ht
theorem wZ(hs:St w0 A (rh K tp.b m.room t::mP K p m i tp::R) w):St w0 A (gI K p {m with l:=m.l.set i t}::R) w:=by
 obtain⟨a,⟨hu,hp,hl,hi⟩,hs⟩:=mP.open hs.p1
 have h1:St w0 A (xZ K m.room tp t::nB (xZ K m.room) a.ps m.l i::_) w:=(hs.p4).p5
 have h2:=h1.CV hi hl hp
 have h3:=h2.p4.p4.p4.p4
 exact gI.shut (m:={m with l:=m.l.set i t}) ⟨hu.pr,hu.cs,hu.ks,hu.mem,hu.rc⟩ h3
end
def sw(m:gW)(t:jP):Bool:=match oQ t.cD with
 | none=>false
 | some (x,_,_)=>if t.fault≠0\/x.kind=2 then true else if x.kind=3\/x.kind=5\/x.kind=6\/x.kind=7 then !decide (m.room<=t.buf.length)
  else if x.kind=9/\m.eP.getD (cU (cL m.p) x.name).toNat 0≠-1 then false else decide (t.buf.length=0)
def ri(m:gW)(i:Nat)(t:jP):List cA:=(if sw m t=true then [⟨1,i,0,[]⟩]else [])++(pa t.buf).map λ k=>⟨2,i,k,[]⟩
def gX(m:gW)(k:Nat):List cA:=(List.range k).flatMap λ i=>match m.l[i]? with|some t=>ri m i t|none=>[]
def gJ(m:gW):List cA:=if m.fault≠0 then []else gX m m.l.length
theorem tP{m:gW}{k:Nat}{t:jP}(h:m.l[k]?=some t):gX m (k+1)=gX m k++ri m k t:=by
 unfold gX;rw[List.range_succ,List.flatMap_append];simp[h]
def YL(t:jP):Prop:=t.fault=0->∀x a b,oQ t.cD=some (x,a,b)->(2<=x.kind/\x.kind<=10)/\(eF t x.e).2=true/\(eF t x.f).2=true
structure ou(m:gW):Prop where
 mem:vV m.mem
 th:∀t∈m.l,xI (cT m.p) (cL m.p) t
 tl:m.l.length<=1000
 ow:m.eP.length=(cL m.p).length
 rm:1<=m.room/\m.room<=16
 st:∀t∈m.l,YL t
 pz:PZ m.p
theorem zh(l:List bH):(pa l).length<=l.length:=by grind[pa]
theorem Mx(m:gW)(i:Nat)(t:jP):(ri m i t).length<=1+t.buf.length:=by
 have:=zh t.buf
 unfold ri;grind
theorem rj{m:gW}(h:ou m):∀k,(gX m k).length<=k*1001
 | 0=>by simp[gX]
 | k+1=>by
  have ih:=rj h k
  cases ht:m.l[k]? with
  | none=>
   have e:gX m (k+1)=gX m k:=by unfold gX;rw[List.range_succ,List.flatMap_append];simp[ht]
   grind
  | some t=>
   rw[tP ht,List.length_append]
   have:=Mx m k t
   have:=(h.th t (List.mem_of_getElem? ht)).bl
   omega
theorem E4{m:gW}(h:ou m):(gJ m).length<=1001000:=by
 unfold gJ;split
 ·simp
 exact Nat.le_trans (rj h _) (Nat.mul_le_mul_right 1001 h.tl)
def gY(m:gW)(t:jP)(c:Int):Int:=if (kV t.buf c).isSome=true then(kV t.buf c).getD 0 else jy m.mem c
def dK(m:gW)(x:bN):Int:=cU (cT m.p) x.name
def fy(m:gW)(x:bN):Int:=cU (cL m.p) x.name
def ft(m:gW)(x:bN):Int:=o9 m.p (dK m x)
def pH(m:gW)(t:jP)(y:bH):jP:={t with buf:=sg m.room t.buf y}
def xc(m:gW)(t:jP)(x:bN):bU:=⟨if (kV t.buf (dK m x)).isSome=true then 2 else 1,0,dK m x,gY m t (dK m x),0⟩
def rk(m:gW)(t:jP)(x:bN):gW:=if jy m.mem (dK m x)=(eF t x.e).1 then {m with mem:=fh m.mem (dK m x) (eF t x.f).1}else m
def tu(m:gW)(t:jP)(x:bN):bU:=if jy m.mem (dK m x)=(eF t x.e).1 then⟨8,0,dK m x,jy m.mem (dK m x),(eF t x.f).1⟩else⟨9,0,dK m x,jy m.mem (dK m x),0⟩
def pb(m:gW)(x:bN)(i:Int):gW:={m with eP:=m.eP.set (fy m x).toNat i}
def dT(m:gW)(t:jP)(i:Int)(x:bN):gW×jP×bU:=
 if x.kind=2 then(m,oR t x.eC (gY m t (dK m x)),xc m t x)
 else if x.kind=3 then(m,pH m t ⟨3,ft m x,dK m x,(eF t x.e).1⟩,⟨3,0,dK m x,(eF t x.e).1,0⟩)
 else if x.kind=5 then(m,pH m t ⟨5,ft m x,0,0⟩,⟨4,0,ft m x,0,0⟩)
 else if x.kind=6 then(m,pH m t ⟨6,ft m x,0,0⟩,⟨5,0,ft m x,0,0⟩)
 else if x.kind=7 then(m,pH m t ⟨7,0,0,0⟩,⟨6,0,0,0,0⟩)
 else if x.kind=8 then(m,t,⟨7,0,0,0,0⟩)
 else if x.kind=4 then(rk m t x,oR t x.eC (jy m.mem (dK m x)),tu m t x)
 else if x.kind=9 then(pb m x i,t,⟨10,0,fy m x,0,0⟩)
 else(pb m x (-1),t,⟨11,0,fy m x,0,0⟩)
def tQ(m:gW)(t:jP)(i:Int)(x:bN):jP:=goD { (dT m t i x).2.1 with cD:=gn (dT m t i x).2.1.cD}
def ie(m:gW)(i:Int):gW×bU:=match m.l[i.toNat]? with
 | none=>(m,⟨0,0,0,0,0⟩)
 | some t=>if t.fault≠0 then({m with fault:=t.fault,iS:=i},⟨16,i,t.fault,0,0⟩)else match oQ t.cD with
  | none=>(m,⟨0,0,0,0,0⟩)
  | some (x,_,_)=>if x.kind=10/\m.eP.getD (fy m x).toNat 0≠i then({m with fault:=3,iS:=i},⟨16,i,3,0,0⟩)
   else({ (dT m t i x).1 with l:=m.l.set i.toNat (tQ m t i x)},{ (dT m t i x).2.2 with t:=i})
def sP(m:gW)(t:jP)(q:cA):gW:={m with mem:=jM m.mem (dB t.buf q.i),l:=m.l.set q.t.toNat {t with buf:=jL t.buf q.i}}
def Hj(l:List bN):Bk:=(sM l).getD .nil
def vS(t:cN):jP:=⟨t.dL,List.replicate t.dL.length 0,jl (Hj t.body) false [],0,[]⟩
def TQ(t:cN):jP:=goD (vS t)
def qG(m:gW)(l:List cN):gW:={m with eP:=List.replicate (cL m.p).length (-1),l:=l.map TQ}
def iK(m:gW)(q:cA):Option (List Int):=if q.kind=3/\q.t=0/\q.i=0/\m.fault=0 then fw m.mem q.cut else none
def oT(m:gW)(kW:List Int):gW:={m with mem:=my m.mem kW,bZ:=m.bZ+1}
def uJ(m:gW):List cN:=if m.p.recover.length=0 then [⟨⟨#[]⟩,[],[],0⟩]else m.p.recover
def qw(m:gW)(q:cA):gW×bU×Int:=match iK m q with
 | some kW=>(qG (oT m kW) (uJ m),⟨15,0,0,qp q.cut q.cut.length,0⟩,0)
 | none=>if (gJ m).any (mV q)=true then
   (if q.kind=2 then(match m.l[q.t.toNat]? with|some t=>(sP m t q,sN q.t (dB t.buf q.i),0)|none=>(m,⟨0,0,0,0,0⟩,13))else((ie m q.t).1,(ie m q.t).2,0))
  else(m,⟨0,0,0,0,0⟩,13)
def mC(t:jP):Bool:=decide (t.cD.length=0)&&decide (t.buf.length=0)
def kX(m:gW):Bool:=decide (m.fault=0)&&!(List.range m.l.length).any λ i=>match m.l[i]? with|some t=>!mC t|none=>false
def mD(m:gW):Bool:=decide (m.fault=0)&&(!kX m&&decide (((gJ m).length:Int)=0))
def iW(m:gW):gT:=⟨m.bZ,m.fault,m.iS,kX m,mD m⟩
def oU(m:gW)(c:gG):Bool:=decide ((pA (gg m.p) (m.mem.l.take (eu m.p).toNat) c.e).2=0)&&decide ((pA (gg m.p) (m.mem.l.take (eu m.p).toNat) c.e).1≠0)
def eY(m:gW):List Bool:=m.p.dP.map (oU m)
def AJ(p:cG):List Int:=(List.range (cT p).length).map fun (i:Nat)=>o9 p (i:Int)
def xd(p:cG)(room:Int):gW:=⟨p,room,I3 (AJ p) (eu p) (eX p),[],[],0,0,0⟩
def iT(p:cG)(room:Int):gW:=qG (xd p room) p.threads
theorem C141(K Φ:World->Prop)(p:Nat)(room:Int)(t:jP)(w:World)(hh:Has (eL K Φ p room t) w)(GH:t.buf.length<=1000):CR 141 [.pointer (some ⟨p,0,none⟩)] w (λ v w'=>v=.bool (decide (t.buf.length=0))/\Ext w w'):=by
 obtain⟨bp,nv,rg,pl,es,hk,su,hB,CG,oZ,I6,_⟩:=eL.rd hh;have ct0:=su.cell (o:=0) rfl;have hs:=St.start w;refine eS Tryz.func141 ?_;exact aD (aA oD (bM zR (ct0.ext hs.aF) (ek al4 hs (C153 bp _ _ _ (hB.ext hs.aF) (by omega)) (λ _ _ _ hs=>aI fO (hs).dX (aH ⟨vb (decide_eq_decide.2 (by omega)),hs.drop.aF⟩)))))
theorem C138(K Φ:World->Prop)(p:Nat)(m:gW)(q:Nat)(t:jP)(w:World)(hm:Has (gI K p m) w)(hw:∀w',Ext w w'->K w')(iy:ou m)(hh:Has (eL K Φ q m.room t) w)(BN:t∈m.l):CR 138 [.pointer (some ⟨p,0,none⟩),.pointer (some ⟨q,0,none⟩)] w (λ v w'=>v=.bool (sw m t)/\Ext w w'):=by
 obtain⟨a,hr⟩:=gI.rd hm (hw _ (Ext.refl _));have cm7:=hr.b.cell (o:=7) rfl;have F6:=hr.b.cell (o:=10) rfl;have ki:=iy.th t BN;have GH:=ki.bl;have ai3:(cL m.p).length<=500:=by unfold cL;rw[List.length_map];exact iy.pz.eG
 have oZ:=C7 ki.p;have Ew:=ki.cl;obtain⟨bp,nv,rg,pl,es,hk,su,hB,CG,TO,I6,_⟩:=eL.rd hh;have ct0:=su.cell (o:=0) rfl;have ct4:=su.cell (o:=4) rfl;have hs:=St.start w;refine oY Tryz.func138 (pl:=awN) ?_;refine dN Yy (C137 K q t bp nv rg pl es _ _ su TO I6 hw ki.p (by omega)) ?_;rintro v _ ⟨he,hv⟩;have hs:=hs.ext he
 rcases hv with⟨eD,rfl⟩|⟨x,xa,xb,xv,av,bv,ra,rb,BM,rfl,zB,_⟩
 ·exact aN rfl (aN rfl (aN rfl (aN rfl (aM hs jq (λ _ _ hs=>aJ (x:=(⟨0,⟨#[]⟩,⟨#[]⟩,cH,cH,0,0,0,0⟩:aZ)) hs eI rfl rfl (λ _ hs=>bQ (ig ⟨vb (by unfold sw;rw[eD]),hs.drop.aF⟩)))))))
 obtain⟨ge,gf,rfl,_,_⟩:=iV (zB _ (hw _ hs.aF));have hx:=(ki.top BM).1;have tS:sw m t=(if t.fault≠0\/x.kind=2 then true else if x.kind=3\/x.kind=5\/x.kind=6\/x.kind=7 then !decide (m.room<=t.buf.length)else if x.kind=9/\m.eP.getD (cU (cL m.p) x.name).toNat 0≠-1 then false else decide (t.buf.length=0)):=by unfold sw;rw[BM]
 refine aN rfl (aN rfl (aN rfl (aN rfl (aM hs jq (λ b5 w2 hs=>aJ (x:=(⟨x.kind,x.eC,x.name,ge,gf,x.n,x.body,x.eo,x.at_⟩:aZ)) hs eI rfl rfl (λ w3 hs=>bQ (fm ?_)))))));refine⟨λ jv w'=>jv=.bool (decide (t.fault≠0\/x.kind=2))/\w'=w3,?_,?_⟩
 ·exact aD (aA wj (bM bL (ct4.ext hs.aF) (bV (aC (λ _=>⟨vb (decide_eq_true (by omega)).symm,rfl⟩) (λ _=>aA dJ (aB (v:=.int .i64 x.kind) bL hs.hb rfl (aH ⟨vb (decide_eq_decide.2 (by omega)),rfl⟩)))))))
 rintro _ w4 ⟨rfl,rfl⟩ _;refine aC (λ c1=>?_) (λ c1=>?_)
 ·exact⟨vb (by rw[tS,if_pos c1]),hs.drop.aF⟩
 rw[if_neg c1]at tS;refine⟨λ jv w'=>jv=.bool (decide (x.kind=3\/x.kind=5\/x.kind=6\/x.kind=7))/\w'=w4,?_,?_⟩
 ·refine aA dJ (aB (v:=.int .i64 x.kind) bL hs.hb rfl ?_);exact aH (aC (λ _=>⟨vb (decide_eq_true (by omega)).symm,rfl⟩) (λ _=>aA dJ (aB (v:=.int .i64 x.kind) bL hs.hb rfl (aH (aC (λ _=>⟨vb (decide_eq_true (by omega)).symm,rfl⟩) (λ _=>aA dJ (aB (v:=.int .i64 x.kind) bL hs.hb rfl (aH (aC (λ _=>⟨vb (decide_eq_true (by omega)).symm,rfl⟩) (λ _=>aA dJ (aB (v:=.int .i64 x.kind) bL hs.hb rfl (aH ⟨vb (decide_eq_decide.2 (by omega)),rfl⟩))))))))))))
 rintro _ _ ⟨rfl,rfl⟩ _;refine aC (λ c2=>?_) (λ c2=>?_)
 ·exact aD (aA oD (bM zR (ct0.ext hs.aF) (aT ae1 hs (C215 bp _ _ _ (hB.ext hs.aF)) (λ _ _ hs=>bQ ⟨vb (by rw[tS,if_pos c2]),hs.drop.aF⟩))))
 rw[if_neg c2]at tS;refine⟨λ jv w'=>jv=.bool (decide (x.kind=9/\m.eP.getD (cU (cL m.p) x.name).toNat 0≠-1))/\St w aY [bY b5 (Flat.enc (⟨x.kind,x.eC,x.name,ge,gf,x.n,x.body,x.eo,x.at_⟩:aZ))] w',?_,?_⟩
 ·have hs:=hs.drew;refine aA dJ (aB (v:=.int .i64 x.kind) bL hs.hb rfl (aH (aC (λ c3=>?_) (λ _=>⟨vb (decide_eq_false (by omega)).symm,hs⟩))));obtain⟨j,hj,BA,_⟩:=lF (dH.1 (hx.lk (.inl c3)));have Dt:=(List.getElem?_eq_some_iff.1 BA).1;have how:=iy.ow;refine aD (aA u0 (bM eg (F6.ext hs.aF) (aD (aA Ih (bM iZ (cm7.ext hs.aF) (aA fU (aB (v:=.string x.name) gj hs.hb rfl (aT GU hs (C159 _ (cL m.p) x.name _ (hr.uk.ks _ (hw _ hs.aF)) (by omega)) (λ _ he hs=>?_)))))))));refine⟨aG eg (F6.ext hs.aF),?_⟩;obtain⟨ov,YM⟩:=gx m.eP (i:=(cU (cL m.p) x.name).toNat) (by omega)
  refine aO cM (hr.ow.ext hs.aF) (by omega) YM (λ q71 h71=>aE bL h71 (bV ?_));refine⟨vb (decide_eq_decide.2 ?_),hs⟩;rw[List.getD_eq_getElem?_getD,YM];exact⟨λ h=>⟨c3,h⟩,λ h=>h.2⟩
 rintro _ _ ⟨rfl,hs⟩ _;refine aC (λ c4=>?_) (λ c4=>?_)
 ·exact⟨vb (by rw[tS,if_pos c4]),hs.drop.aF⟩
 exact aT agj hs (C141 K Φ q m.room t _ (hh.ext hs.aF) GH) (λ _ _ hs=>⟨vb (by rw[tS,if_neg c4]),hs.drop.aF⟩)
theorem C67(K:World->Prop)(p:Nat)(m:gW)(w:World)(hm:Has (gI K p m) w)(hw:∀w',Ext w w'->K w')(iy:ou m):CR 67 [.pointer (some ⟨p,0,none⟩)] w (λ v w'=>lL (fV v (gJ m)) w w'):=by
 obtain⟨a,hr⟩:=gI.rd hm (hw _ (Ext.refl _));have E5:=hr.b.cell (o:=11) rfl;have TR:=hr.b.cell (o:=13) rfl;have hlen:=hr.len;have Nv:=iy.tl;have hs:=St.start w;refine eS Tryz.func67 ?_;refine aD (aA xt (bM bL (TR.ext hs.aF) (bV (aC (λ c=>?_) (λ c=>?_)))))
 ·have hpm:gJ m=[]:=by unfold gJ;rw[if_pos c]
  rw[hpm];exact hs.Ip.fresh
 have hpm:gJ m=gX m m.l.length:=by unfold gJ;rw[if_neg c]
 rw[hpm];refine aD (aA u5 (bM Ie (E5.ext hs.aF) (aI Kk (hr.ll.ext hs.aF) ?_)));refine⟨λ mm o y w1=>∃k:Nat,y=.int .i64 (k:Int)/\mm=a.ps.length-k/\k<=a.ps.length/\St w aY [fV o (gX m k)] w1,⟨_,0,rfl,rfl,Nat.zero_le _,hs.Ip⟩,?_⟩;rintro mm o _ w1 ⟨k,rfl,rfl,hk,hs⟩ _;have oZ:=rj iy k;have Qz:k*1001<=1001000:=by omega
 refine aQ (aC (λ c1=>?_) (λ c1=>?_));rotate_left
 ·rw[show k=m.l.length from by omega]at hs;exact hs.fresh
 obtain⟨e,he⟩:=gx a.ps (i:=((k:Nat):Int).toNat) (by omega);obtain⟨t,ht⟩:=gx m.l (i:=k) (by omega);have BN:=List.mem_of_getElem? ht;have GH:=(iy.th t BN).bl;have UI:=hr.th k e t he ht;obtain⟨bp,nv,rg,pl,es,JD,su,hB,CG,TO,I6,_⟩:=eL.rd UI;have ct0:=su.cell (o:=0) rfl;refine aO Kk (hr.ll.ext hs.aF) (by omega) he (λ q hq=>aE GA hq ?_);refine⟨λ jv w'=>St w aY [fV jv (gX m k++(if sw m t=true then [(⟨1,k,0,[]⟩:cA)]else []))] w',?_,?_⟩
 ·refine aT ap9 hs (C138 K _ p m e.b t _ (hm.ext hs.aF) (λ _ e=>hw _ (hs.aF.then e)) iy (UI.ext hs.aF) BN) (λ _ he hs=>aW (λ c2=>?_) (λ c2=>?_))
  ·refine pop (Hg 1 (k:Int)) (have hs:=hs.fT (Φ:=λ w=>Deep.dr w (⟨1,(k:Int),0,cH⟩:bF) (⟨1,(k:Int),0,[]⟩:cA)) (λ w=>⟨cH,rfl,DL.nil w⟩);gw (x:=(⟨1,(k:Int),0,[]⟩:cA)) (s:=(⟨1,(k:Int),0,cH⟩:bF)) hs lY (by decide) (λ s29 _ hs=>gy hs.p1 lY (by rw[List.length_singleton];omega) (by decide) (λ s30 _ hs=>?_)));rw[if_pos c2];exact hs
  rw[if_neg (by rw[c2];decide),List.append_nil];exact hs
 rintro o2 _ hs _;refine aD (aA oD (bM zR (ct0.ext hs.aF) (ek al0 hs (C139 bp _ _ _ (hB.ext hs.aF) (by omega)) (λ x35 _ cO hs=>?_))));have Ew:=zh t.buf;refine aI cM (hs).dX ?_;refine⟨λ mm o y w1=>∃j:Nat,y=.int .i64 (j:Int)/\mm=(pa t.buf).length-j/\j<=(pa t.buf).length/\St w aY [fV o (gX m k++(if sw m t=true then [(⟨1,k,0,[]⟩:cA)]else [])++((pa t.buf).take j).map λ i=>(⟨2,k,i,[]⟩:cA)),bG x35 (pa t.buf)] w1,⟨_,0,rfl,rfl,Nat.zero_le _,by rw[List.take_zero,List.map_nil,List.append_nil];exact hs.p1⟩,?_⟩;rintro mm o3 _ _ ⟨j,rfl,rfl,hj,hs⟩ _;refine aQ (aC (λ c3=>?_) (λ c3=>?_))
 ·obtain⟨y,hy⟩:=gx (pa t.buf) (i:=((j:Nat):Int).toNat) (by omega);exact aO cM (hs.p1).dX (by omega) hy (λ _ hq=>aE bL hq (pop (Cm 2 (k:Int) y) (have hs:=hs.fT (Φ:=λ w=>Deep.dr w (⟨2,(k:Int),y,cH⟩:bF) (⟨2,(k:Int),y,[]⟩:cA)) (λ w=>⟨cH,rfl,DL.nil w⟩);gw (x:=(⟨2,(k:Int),y,[]⟩:cA)) (s:=(⟨2,(k:Int),y,cH⟩:bF)) hs lY (by decide) (λ _ _ hs=>gy hs.p1 lY (by simp only[List.length_append,List.length_map,List.length_take,List.length_singleton];split<;>simp<;>omega) (by decide) (λ _ _ hs=>aK (by omega) ⟨_,by omega,j+1,rfl,rfl,by omega,by rw[<- fW (k:=j) hy,<- List.append_assoc];exact hs⟩)))))
 rw[List.take_of_length_le (by omega)]at hs;refine aK (by omega) ?_;refine⟨_,by omega,k+1,rfl,rfl,by omega,?_⟩;rw[tP ht];unfold ri;rw[<- List.append_assoc];exact(hs.p1).drop
theorem ago:PL 227:=dF Tryz.func227
theorem awZ:PL 53:=dF Tryz.func53
theorem C158(K:World->Prop)(p:Nat)(m:gW)(i kind:Int)(F:Nat->Prop)(w:World)(hF:(gI K p m).p w F):CR 158 [.pointer (some ⟨p,0,none⟩),.int .i64 i,.int .i64 kind] w (λ v w'=>v=Flat.val (⟨16,i,kind,0,0⟩:bU)/\mL F (gI K p {m with fault:=kind,iS:=i}) w w'):=by
 have hs:=St.begin hF;refine eS Tryz.func158 ?_;obtain⟨a,hu,hs⟩:=gI.open hs;exact aM hs m7 (λ _ _ hs=>have hs:=hs.enc (cs':=Flat.enc (⟨0,0,0,0,0⟩:bU)) rfl;aD (aA xt (aS hs.p1 bL (dI rfl) rfl (λ _ hs=>aD (aA QU (aS hs bL (dI rfl) rfl (λ _ hs=>pop (tn 16 i kind) (aJ (x:=(⟨16,i,kind,0,0⟩:bU)) hs.p1 fb rfl rfl (λ _ hs=>aE fb hs.At ⟨rfl,(gI.shut (m:={m with fault:=kind,iS:=i}) ⟨hu.pr,hu.cs,hu.ks,hu.mem,hu.rc⟩ hs.drop).mut⟩)))))))))
theorem C160(K:World->Prop)(p:Nat)(m:gW)(n:Nat)(tp:Ptr)(t:jP)(x:bN)(xv:aZ)(F:Nat->Prop)(c:Int)(w:World)(hF:(sep (rh K tp.b m.room t) (mP K p m n tp)).p w F)(hK:∀w',gq F w w'->K w')(ki:xI (cT m.p) (cL m.p) t)(hmm:vV m.mem)(zB:∀w,K w->Deep.dr w xv x)(CG:0<=cU t.names x.eC):CR 160 [.pointer (some ⟨p,0,none⟩),.pointer (some ⟨tp.b,0,none⟩),Flat.val xv,.int .i64 c] w (λ v w'=>v=Flat.val (⟨if (kV t.buf c).isSome=true then 2 else 1,0,c,gY m t c,0⟩:bU)/\mL F (sep (rh K tp.b m.room (oR t x.eC (gY m t c))) (mP K p m n tp)) w w'):=by
 have hs:=(St.begin hF).split;obtain⟨ge,gf,rfl,_,_⟩:=iV (zB _ (hK _ hs.aF));obtain⟨j,hj,BA,_⟩:=lF (dH.1 CG);have Dt:=(List.getElem?_eq_some_iff.1 BA).1;have YA:=ki.nb;have F4:=ki.rl;have GH:=ki.bl;refine adu _ _ _ _ _ _ ?_;unfold S160;refine cI (x:=(⟨x.kind,x.eC,x.name,ge,gf,x.n,x.body,x.eo,x.at_⟩:aZ)) hs (λ b6 _ hs=>aM hs m7 (λ b8 _ hs=>?_));have hs:=(hs.enc (cs':=Flat.enc (⟨0,0,0,0,0⟩:bU)) rfl).p2;obtain⟨bp,nv,rg,pl,es,hk,hs⟩:=eL.open hs;refine aD (aA oD (aB zR hs.hb rfl (aT amf hs (C226 bp c m.room t.buf _ (C6 hs.p1) (by omega)) (λ _ he hs=>aN rfl (aN rfl ?_)))))
 refine⟨λ n9 k11 w'=>n9=.int .i64 (gY m t c)/\k11=.int .i64 (if (kV t.buf c).isSome=true then 2 else 1)/\St w F [bY tp.b (AI bp nv rg pl t.fault),ja bp m.room t.buf,bG rg t.dL,bG pl (NC es),fk (λ w=>Da K w es t.cD/\True),bY b8 (Flat.enc (⟨0,0,0,0,0⟩:bU)),bY b6 (Flat.enc (⟨x.kind,x.eC,x.name,ge,gf,x.n,x.body,x.eo,x.at_⟩:aZ)),mP K p m n tp] w',?_,?_⟩
 ·refine bQ (aW (λ c1=>?_) (λ c1=>?_))
  ·have h1:(kV t.buf c).isSome=false:=by simpa using c1
   have hs:=hs.p7;obtain⟨a,hx,hs⟩:=mP.open hs;exact aD (aA sW (aB Kj hs.hb rfl (aT ago hs (agf a.q m.mem c _ (I1 hs.p1 (hx.1.mem _ (hK _ hs.aF))) hmm) (λ _ _ hs=>aN rfl (aN rfl (have hs:=(((((((mP.shut (m:=m) (hx) hs.p4.p4.p4.p4.p4).p7).p7).p7).p7).p7).p7).p7;⟨by unfold gY;rw[if_neg (by rw[h1];decide)],by rw[if_neg (by rw[h1];decide)],hs⟩))))))
  have h1:(kV t.buf c).isSome=true:=by simpa using c1
  exact⟨by unfold gY;rw[if_pos h1],by rw[if_pos h1],hs⟩
 rintro _ _ _ ⟨rfl,rfl,hs⟩ _;have hs:=hs.drew;refine aD (aA zV (aB eg hs.hb rfl (aD (aA zU (aB iZ hs.hb rfl (aA iv (aB (v:=.string x.eC) gj hs.p6.hb rfl (aT GU hs (C159 _ t.names x.eC _ (hk _ (hK _ hs.aF)) (by omega)) (λ _ he hs=>?_)))))))));refine⟨aG eg (hs.hb.cell rfl),?_⟩;exact dM hs.p2 cM (by omega) (by omega) (λ _ aw0=>jm (gY m t c:Int) hs.p2 bL aw0 (by omega) (λ _ hs=>pop (mB (if (kV t.buf c).isSome=true then 2 else 1) c (gY m t c)) (aJ (x:=(⟨if (kV t.buf c).isSome=true then 2 else 1,0,c,gY m t c,0⟩:bU)) hs.p5 fb rfl rfl (λ _ hs=>aE fb hs.At (have hs:=eL.shut (Φ:=λ _=>True) (t:=oR t x.eC (gY m t c)) hk hs.drop.p5.drop.p4.p4.p2.p4.p4;have hs:=hs.p1.p1;⟨rfl,(St.join hs).mut⟩)))))
theorem C163(K:World->Prop)(p:Nat)(m:gW)(n:Nat)(tp:Ptr)(t:jP)(x:bN)(xv:aZ)(F:Nat->Prop)(w:World)(hF:(sep (rh K tp.b m.room t) (mP K p m n tp)).p w F)(hK:∀w',gq F w w'->K w')(ki:xI (cT m.p) (cL m.p) t)(hmm:vV m.mem)(zB:∀w,K w->Deep.dr w xv x)(CG:0<=cU t.names x.eC)(rA:MB m.mem 1000000)(UE:x.e.length<=1000/\x.f.length<=1000)(hv1:(eF t x.e).2=true)(hv2:(eF t x.f).2=true):CR 163 [.pointer (some ⟨p,0,none⟩),.pointer (some ⟨tp.b,0,none⟩),Flat.val xv,.int .i64 (dK m x)] w (λ v w'=>v=Flat.val (tu m t x)/\mL F (sep (rh K tp.b m.room (oR t x.eC (jy m.mem (dK m x)))) (mP K p (rk m t x) n tp)) w w'):=by
 have hs:=(St.begin hF).split;obtain⟨ge,gf,rfl,_,_⟩:=iV (zB _ (hK _ hs.aF))
 have Pj:∀w,K w->dC (λ _=>True) w (Flat.val ge) x.e/\dC (λ _=>True) w (Flat.val gf) x.f:=λ w hw=>by
  obtain⟨_,_,h4,h5,h6⟩:=iV (zB w hw);cases h4
  exact⟨h5,h6⟩
 obtain⟨j,hj,BA,_⟩:=lF (dH.1 CG);have Dt:=(List.getElem?_eq_some_iff.1 BA).1;have YA:=ki.nb;have F4:=ki.rl;have ht1:{t with fault:=if (eF t x.e).2=true then t.fault else 2}=t:=by rw[hv1];rfl
 have ht2:{t with fault:=if (eF t x.f).2=true then t.fault else 2}=t:=by rw[hv2];rfl
 obtain⟨c,hc⟩:∃c,c=dK m x:=⟨_,rfl⟩;rw[<- hc];refine adv _ _ _ _ _ _ ?_;unfold S163;refine cI (x:=(⟨x.kind,x.eC,x.name,ge,gf,x.n,x.body,x.eo,x.at_⟩:aZ)) hs (λ b6 _ hs=>aM hs m7 (λ b8 _ hs=>?_));have hs:=(hs.enc (cs':=Flat.enc (⟨0,0,0,0,0⟩:bU)) rfl).p3;obtain⟨a,hx,hs⟩:=mP.open hs;refine aD (aA sW (aB Kj hs.hb rfl (aT ago hs (agf a.q m.mem c _ (I1 hs.p1 (hx.1.mem _ (hK _ hs.aF))) hmm) (λ _ he hs=>aN rfl (aN rfl (aA iN (aB (v:=Flat.val ge) jo hs.p6.hb rfl (have hs:=hs.p7;bD Mk hs (H':=λ _=>rh K tp.b m.room t) (Φ:=λ v _=>v=.tuple #[.int .i64 (eF t x.e).1,.bool (eF t x.e).2]) (λ F2 dY dW=>?_) ?_))))))))
 ·have:=C161 K _ tp.b m.room t F2 _ x.e _ dY (λ w' hc=>hK w' (dW w' hc).aF) (Pj _ (hK _ hs.aF)).1 (by omega) (by omega);rw[ht1]at this;exact this
 rintro _ _ rfl hs;refine aN rfl (aN rfl (aA jU (aB (v:=Flat.val gf) jo hs.p7.hb rfl (bD Mk hs (H':=λ _=>rh K tp.b m.room t) (Φ:=λ v _=>v=.tuple #[.int .i64 (eF t x.f).1,.bool (eF t x.f).2]) (λ F2 dY dW=>?_) ?_))))
 ·have:=C161 K _ tp.b m.room t F2 _ x.f _ dY (λ w' hc=>hK w' (dW w' hc).aF) (Pj _ (hK _ hs.aF)).2 (by omega) (by omega);rw[ht2]at this;exact this
 rintro _ _ rfl hs;refine aN rfl (aN rfl ?_);obtain⟨bp,nv,rg,pl,es,hk,hs⟩:=eL.open hs;have hs:=hs.drew;refine aD (aA zV (aB eg hs.hb rfl (aD (aA zU (aB iZ hs.hb rfl (aA iv (aB (v:=.string x.eC) gj hs.p11.hb rfl (aT GU hs (C159 _ t.names x.eC _ (hk _ (hK _ hs.aF)) (by omega)) (λ _ he hs=>?_)))))))));refine⟨aG eg (hs.hb.cell rfl),?_⟩;refine dM hs.p2 cM (by omega) (by omega) (λ _ aw1=>jm (jy m.mem c:Int) hs.p2 bL aw1 (by omega) (λ w6' hs=>have hs:=eL.shut (Φ:=λ _=>True) (t:=oR t x.eC (jy m.mem c)) hk hs.p4.p4.p2.p4.p4;bV (aC (λ c1=>?_) (λ c1=>?_))))
 ·have hcm:rk m t x=m:=by unfold rk;rw[<- hc,if_neg c1]
  have ze:tu m t x=⟨9,0,c,jy m.mem c,0⟩:=by unfold tu;rw[<- hc,if_neg c1]
  refine pop (mB 9 c (jy m.mem c)) (aJ (x:=(⟨9,0,c,jy m.mem c,0⟩:bU)) hs.p6 fb rfl rfl (λ _ hs=>aE fb hs.At ?_));have hs:=(mP.shut (m:=m) (hx) hs.drop.p6.drop.p5.p5.p5.p5.p5).p1;rw[hcm,ze];exact⟨rfl,(St.join hs).mut⟩
 have hcm:rk m t x={m with mem:=fh m.mem c (eF t x.f).1}:=by unfold rk;rw[<- hc,if_pos (by simpa using c1)]
 have ze:tu m t x=⟨8,0,c,jy m.mem c,(eF t x.f).1⟩:=by unfold tu;rw[<- hc,if_pos (by simpa using c1)]
 refine aD (aA sW (aB Kj hs.p1.hb rfl (have hs:=hs.p2;bD aeW hs (H':=λ _=>iB a.q a.ov a.fv (fh m.mem c (eF t x.f).1)) (Φ:=λ _ _=>True) (λ F2 dY dW=>?_) ?_)))
 ·exact(C156 a.q a.ov a.fv m.mem F2 c _ _ dY (λ w' hc=>hx.1.mem _ (hK w' (dW w' hc).aF)) hmm rA).mono λ _ _ r=>r.mono λ _ _ h=>⟨trivial,h.2⟩
 rintro _ _ _ hs;refine pop (yx 8 c (jy m.mem c) (eF t x.f).1) (aJ (x:=(⟨8,0,c,jy m.mem c,(eF t x.f).1⟩:bU)) hs.p6 fb rfl rfl (λ _ hs=>aE fb hs.At ?_));have hs:=mP.shut (m:={m with mem:=fh m.mem c (eF t x.f).1}) (⟨⟨hx.1.pr,hx.1.cs,hx.1.ks,λ w hw=>(hx.1.mem w hw).write,hx.1.rc⟩,hx.2⟩) hs.drop.p6.drop.p5.p5.p5.p3.p5;have hs:=hs.p1;rw[hcm,ze];exact⟨rfl,(St.join hs).mut⟩
theorem C87(cv:Value)(cut:List Int)(w:World)(hC:dC (λ _=>True) w cv cut)(Yn:cut.length<=1000000):CR 87 [cv] w (λ v w'=>v=.int .i64 (qp cut cut.length)/\Ext w w'):=by
 have hs:=St.start w;refine ai0 _ _ _ ?_;unfold S87;refine aI cM (hC.ext hs.aF) ?_;refine⟨λ mm n x w1=>∃k:Nat,n=.int .i64 (qp cut k)/\x=.int .i64 (k:Int)/\mm=cut.length-k/\k<=cut.length/\St w aY [] w1,⟨_,0,rfl,rfl,rfl,Nat.zero_le _,hs⟩,?_⟩;rintro mm _ _ w1 ⟨k,rfl,rfl,rfl,hk,hs⟩ _;refine aQ (aC (λ jj=>?_) (λ _=>⟨by rw[show cut.length=k from by omega],hs.aF⟩));obtain⟨My,tT⟩:=gx (cut) (i:=((k:Int)).toNat) (by omega);exact aO cM hC (by omega) tT (λ _ qo=>aE bL (qo.ext hs.aF) (wx (uo (aK (by omega) ⟨_,by omega,k+1,by rw[E0 (k:=k) tT],rfl,rfl,by omega,hs⟩))))
theorem C88(q x:cA)(qv:bF)(b:Nat)(xv:bF)(w:World)(hq:Deep.dr w qv q)(hx:At (λ _=>True) w (.pointer (some ⟨b,0,none⟩)) xv)(hxd:Deep.dr w xv x):CR 88 [Flat.val qv,(.pointer (some ⟨b,0,none⟩))] w (λ v w'=>v=.bool (mV x q)/\Ext w w'):=by
 obtain⟨adw,rfl,asA⟩:=hq;obtain⟨adx,rfl,ady⟩:=hxd;have hs:=St.start w;refine eS Tryz.func88 ?_;refine cI hs (λ aw2 _ hs=>⟨λ jv w'=>jv=.bool (mV x q)/\St w aY [bY aw2 (Flat.enc (⟨(q).kind,(q).t,(q).i,adw⟩:bF))] w',?_,?_⟩)
 ·refine aA pL (aB (v:=.int .i64 ((q).kind)) bL hs.hb rfl (bW (x).kind pL hx rfl rfl (λ _ aw3=>aE bL (aw3.ext hs.aF) (aH (aC (λ fL=>aA mK (aB (v:=.int .i64 ((q).t)) bL hs.hb rfl (bW (x).t mK hx rfl rfl (λ _ W0=>aE bL (W0.ext hs.aF) (aH (aC (λ jI=>aA sU (aB (v:=.int .i64 ((q).i)) bL hs.hb rfl (bW (x).i sU hx rfl rfl (λ _ mi=>aE bL (mi.ext hs.aF) (aH (aC (λ kD=>?_) (λ _=>⟨vb (by unfold mV;first|(simp_all;done)|grind),hs⟩))))))) (λ _=>⟨vb (by unfold mV;first|(simp_all;done)|grind),hs⟩))))))) (λ _=>⟨vb (by unfold mV;first|(simp_all;done)|grind),hs⟩))))))
  refine bW adx pM hx rfl rfl (λ _ Ah=>aE eg (Ah.ext hs.aF) ?_);have ah1:=DL.flat (ady);exact aI cM (ah1.ext hs.aF) (aH ⟨vb (by unfold mV;first|(simp_all;done)|grind),hs⟩)
 rintro _ _ ⟨rfl,hs⟩ _;exact⟨rfl,hs.drop.aF⟩
theorem ng.ext{w w':World}{b:Nat}{cs:List Value}(h:ng w b cs)(e:Ext w w'):ng w' b cs:=h.of_eq (e.bY b h.lt λ h=>h)
def BO(s:ByteArray)(a:Int)(t:ByteArray):Bool:=decide (a+t.size<=s.size)&&decide (s.extract a.toNat (a+t.size).toNat=t)
def whF(p:UInt8->Bool)(s:ByteArray):Nat->Nat->Nat
 | 0,a=>a
 | n+1,a=>match (iH s)[a]? with
  | some c=>if p c=true then whF p s n (a+1)else a
  | none=>a
def vT(p:UInt8->Bool)(s:ByteArray)(a:Nat):Nat:=whF p s (s.size-a) a
section
variable {p:UInt8->Bool}{s:ByteArray}{k:Nat}{c:UInt8}
theorem Jb(h:s.size<=k):vT p s k=k:=by unfold vT;simp_all[whF]
theorem qH(h:(iH s)[k]?=some c):k<s.size:=by have:=(List.getElem?_eq_some_iff.1 h).1;rw[eT]at this;exact this
theorem E6(h:(iH s)[k]?=some c)(hp:p c=true):vT p s k=vT p s (k+1):=by
 have hk:=qH h
 unfold vT
 rw[show s.size-k=(s.size-(k+1))+1 from by omega,whF,h]
 grind
theorem E7(h:(iH s)[k]?=some c)(hp:p c=false):vT p s k=k:=by
 have hk:=qH h
 unfold vT
 rw[show s.size-k=(s.size-(k+1))+1 from by omega,whF,h]
 grind
end
def tU(c:UInt8):Bool:=decide (c.toNat=32\/c.toNat=9\/c.toNat=10\/c.toNat=13)
def xe(c:UInt8):Bool:=decide (c.toNat≠10)
def sy(c:UInt8):Bool:=gm c.toNat||j6 c.toNat
def vU(c:UInt8):Bool:=j6 c.toNat
def kY(s:ByteArray):Nat->Nat->Option Nat
 | 0,_=>none
 | n+1,a=>match (iH s)[a]? with
  | none=>some a
  | some c=>if tU c=true then kY s n (a+1)else if BO s a ⟨#[47,47]⟩=true then kY s n (vT xe s a)else some a
theorem Pk{s:ByteArray}{n a r:Nat}(h:kY s n a=some r):∃k,n=k+1:=by
 cases n with
 | zero=>cases h
 | succ k=>grind
section
variable {s:ByteArray}{n a r:Nat}{c:UInt8}
theorem TS(h:kY s (n+1) a=some r)(ha:s.size<=a):r=a:=by
 unfold kY at h;rw[List.getElem?_eq_none (by rw[eT];exact ha)]at h;grind
theorem Cn(h:kY s (n+1) a=some r)(hc:(iH s)[a]?=some c)(hb:tU c=true):kY s n (a+1)=some r:=by
 grind[kY]
theorem Hk(h:kY s (n+1) a=some r)(hc:(iH s)[a]?=some c)(hb:tU c=false)(hr:BO s a ⟨#[47,47]⟩=true):kY s n (vT xe s a)=some r:=by
 grind[kY,vT,xe]
theorem Mz(h:kY s (n+1) a=some r)(hc:(iH s)[a]?=some c)(hb:tU c=false)(hr:BO s a ⟨#[47,47]⟩=false):r=a:=by
 unfold kY at h;grind
theorem YN:∀(n a:Nat) (p:UInt8->Bool),a<=whF p s n a/\whF p s n a<=max a s.size
 | 0,a,p=>⟨Nat.le_refl _,by unfold whF;omega⟩
 | n+1,a,p=>by
  unfold whF
  cases h:(iH s)[a]? with
  | none=>grind
  | some c=>
   dsimp only
   split
   ·have:=YN n (a+1) p;have:=qH h;omega
   omega
theorem Pl(p:UInt8->Bool):a<=vT p s a/\vT p s a<=max a s.size:=YN _ _ _
theorem AK:∀{n a r:Nat},kY s n a=some r->a<=s.size->a<=r/\r<=s.size
 | 0,_,_,h,_=>by cases h
 | n+1,a,r,h,ha=>by
  cases hc:(iH s)[a]? with
  | none=>unfold kY at h;grind
  | some c=>
   have hk:=qH hc
   cases hb:tU c with
   | true=>have:=AK (Cn h hc hb) (by omega);omega
   | false=>
    cases hr:BO s a ⟨#[47,47]⟩with
    | true=>have h1:=Pl (s:=s) (a:=a) xe;have:=AK (Hk h hc hb hr) (by omega);omega
    | false=>have:=Mz h hc hb hr;omega
end
def CH:List ByteArray:=[⟨#[61,61]⟩,⟨#[33,61]⟩,⟨#[60,61]⟩,⟨#[38,38]⟩,⟨#[124,124]⟩]
def qx(s:ByteArray)(a:Nat)(c:UInt8):Int:=if CH.any (BO s a)=true then 2 else if (iH (ByteArray.mk #[40,41,123,125,59,44,61,60,33,43,45,42,47,37])).any (λ x=>decide ((x.toNat:Int)=c.toNat))=true then 1 else 0
def tz(l:List bR)(i:Int)(t:ByteArray):Bool:=decide (0<=i)&&(match l[i.toNat]? with|some x=>decide (x.text=t)&&decide (x.kind≠2)&&decide (1<=x.kind)&&decide (x.kind<=3)|none=>false)
def nd(l:List bR)(i:Int):Int:=match (if 0<=i then l[i.toNat]? else none)with
 | some x=>x.at_
 | none=>match l.getLast? with
  | some x=>x.at_+x.text.size
  | none=>0
theorem adA:∀t∈CH,t.size<=1000000:=by decide
theorem sB{l:List bR}{i:Int}{t:ByteArray}(h:tz l i t=true):0<=i/\i<l.length:=by
 unfold tz at h
 grind
theorem C254(s t:ByteArray)(i:Int)(w:World)(hz:s.size<=1000000)(hz2:t.size<=1000000)(h0:0<=i/\i<=2000000):CR 254 [.string s,.int .i64 i,.string t] w (λ v w'=>v=.bool (BO s i t)/\Ext w w'):=by
 have hs:=St.start w;refine eS Tryz.func254 ?_;refine⟨λ jv w'=>jv=.bool (BO s i t)/\w=w',fg gZ (aK (by omega) (fg gZ (im (aC (λ _=>fg gZ (aK (by omega) (KF gZ (by omega) (by omega) (by omega) (iD ⟨vb (by unfold BO;grind),rfl⟩)))) (λ _=>⟨vb (by unfold BO;grind),rfl⟩))))),?_⟩;rintro _ _ ⟨rfl,hw⟩ _;subst hw;exact⟨rfl,hs.aF⟩
theorem C205(s:ByteArray)(i N r:Nat)(w:World)(hz:s.size<=4000)(h0:i<=s.size)(hr:kY s N i=some r):CR 205 [.string s,.int .i64 (i:Int)] w (λ v w'=>v=.int .i64 (r:Int)/\Ext w w'):=by
 have hz0:=hz;replace hz:s.size<=1000000:=by omega
 have hs:=St.start w;refine eS Tryz.func205 ?_;refine⟨λ mm x w1=>∃a:Nat,x=.int .i64 (a:Int)/\a<=s.size/\kY s mm a=some r/\St w aY [] w1,⟨N,i,rfl,h0,hr,hs⟩,?_⟩;rintro mm _ w1 ⟨a,rfl,ha,hp,hs⟩ _;obtain⟨k,rfl⟩:=Pk hp;refine fg gZ (aQ (aC (λ jj=>?_) (λ jj=>?_)))
 ·obtain⟨WV,wL⟩:∃xx,(iH (s))[((a:Int)).toNat]?=some xx:=⟨_,List.getElem?_eq_getElem (by rw[eT];omega)⟩;refine jN gZ (by omega) wL ⟨λ jv w'=>jv=.bool (tU WV)/\w1=w',nA (aC (λ _=>⟨vb (by unfold tU;first|exact(decide_eq_true (by omega)).symm|exact decide_eq_decide.2 (by omega)),rfl⟩) (λ _=>nA (aC (λ _=>⟨vb (by unfold tU;first|exact(decide_eq_true (by omega)).symm|exact decide_eq_decide.2 (by omega)),rfl⟩) (λ _=>nA (aC (λ _=>⟨vb (by unfold tU;first|exact(decide_eq_true (by omega)).symm|exact decide_eq_decide.2 (by omega)),rfl⟩) (λ _=>nA ⟨vb (by unfold tU;first|exact(decide_eq_true (by omega)).symm|exact decide_eq_decide.2 (by omega)),rfl⟩)))))),?_⟩
  rintro _ _ ⟨rfl,hw⟩ _;subst hw;refine aW (λ ym=>?_) (λ ym=>aT ae5 hs (C254 s (ByteArray.mk #[47,47]) (a:Int) _ hz (by decide) (by omega)) (λ _ he hs=>aW (λ lT=>?_) (λ lT=>?_)))
  ·refine aK (by omega) ?_;have Tg:=qH wL;exact⟨k,by omega,a+1,rfl,by omega,Cn hp wL ym,hs⟩
  ·refine⟨λ mm x w1=>∃j:Nat,x=.int .i64 (j:Int)/\mm=s.size-j/\a<=j/\j<=s.size/\vT xe s a=vT xe s j/\St w aY [] w1,⟨_,a,rfl,rfl,Nat.le_refl _,ha,rfl,hs⟩,?_⟩;rintro mm _ w4 ⟨j,rfl,rfl,haj,hj,iL,hs⟩ _;refine⟨λ jv w'=>jv=.bool ((match (iH s)[j]? with|some c=>xe c|none=>false))/\w4=w',fg gZ (aQ (aC (λ lU=>?_) (λ lU=>⟨vb (by first|(rw[show(iH s)[j]?=some wV from vj];unfold xe;exact decide_eq_decide.2 (by omega))|(rw[List.getElem?_eq_none (by rw[eT];omega)])),rfl⟩))),?_⟩
   ·obtain⟨wV,vj⟩:∃xx,(iH (s))[((j:Int)).toNat]?=some xx:=⟨_,List.getElem?_eq_getElem (by rw[eT];omega)⟩;exact jN gZ (by omega) vj (V3 ⟨vb (by first|(rw[show(iH s)[j]?=some wV from vj];unfold xe;exact decide_eq_decide.2 (by omega))|(rw[List.getElem?_eq_none (by rw[eT];omega)])),rfl⟩)
   rintro _ _ ⟨rfl,hw⟩ _;subst hw;refine aW (λ vA=>?_) (λ vA=>?_)
   ·refine aK (by omega) ?_
    have R4:∃c,(iH s)[j]?=some c/\xe c=true:=by
     cases hc:(iH s)[j]? with
     | none=>rw[hc]at vA;cases vA
     | some c=>rw[hc]at vA;exact⟨c,rfl,vA⟩
    obtain⟨cj,CI,TT⟩:=R4;have Dt:=qH CI;exact⟨_,by omega,j+1,rfl,rfl,by omega,by omega,iL.trans (E6 CI TT),hs⟩
   have aw4:vT xe s j=j:=by
    by_cases hjs:j<s.size
    ·obtain⟨cj,R4⟩:∃c,(iH s)[j]?=some c:=⟨_,List.getElem?_eq_getElem (by rw[eT];exact hjs)⟩;rw[R4]at vA;exact E7 R4 vA
    ·exact Jb (by omega)
   have hp2:=Hk hp wL ym lT;rw[iL,aw4]at hp2;exact⟨k,by omega,j,rfl,hj,hp2,hs⟩
  have hx:=Mz hp wL ym (by exact_mod_cast lT);subst hx;exact⟨rfl,hs.aF⟩
 have hx:=TS hp (by omega);subst hx;exact⟨rfl,hs.aF⟩
theorem C208(s:ByteArray)(i:Nat)(c:UInt8)(w:World)(hz:s.size<=1000000)(hc:(iH s)[i]?=some c):CR 208 [.string s,.int .i64 (i:Int)] w (λ v w'=>v=.int .i64 (qx s i c)/\Ext w w'):=by
 have hi:=qH hc;have hs:=St.start w;refine oY Tryz.func208 (pl:=atL) ?_;refine aX (CH) hs ik rfl rfl (dI rfl) (λ anl w1 hs=>?_);refine⟨λ mm x w1=>∃k:Nat,x=.int .i64 (k:Int)/\mm=CH.length-k/\k<=CH.length/\(∀y∈CH.take k,BO s i y=false)/\St w aY [bG anl CH] w1,⟨_,0,rfl,rfl,Nat.zero_le _,by simp,hs⟩,?_⟩;rintro mm _ _ ⟨k,rfl,rfl,hk,eD,hs⟩ _;refine aI ik (hs).dX ?_;have Nv:CH.length=5:=rfl;refine aQ (aC (λ wB=>?_) (λ wB=>?_))
 ·obtain⟨af2,pC⟩:=gx (CH) (i:=((k:Int)).toNat) (by omega);exact dM hs ik (by omega) (by omega) (λ _ Xs=>gD hs gj Xs pC (aT ae5 hs (C254 s af2 (i:Int) _ hz (adA _ (List.mem_of_getElem? pC)) (by omega)) (λ _ _ hs=>aW (λ iF=>⟨congrArg (Value.int .i64) (by unfold qx;rw[if_pos (gU pC iF)]),hs.drop.aF⟩) (λ iF=>aK (by omega) ⟨_,by omega,k+1,rfl,rfl,by omega,dR eD pC iF,hs⟩))))
 have hs:=(hs).drop;refine⟨λ mm x w1=>∃j:Nat,x=.int .i64 (j:Int)/\mm=(ByteArray.mk #[40,41,123,125,59,44,61,60,33,43,45,42,47,37]).size-j/\j<=(ByteArray.mk #[40,41,123,125,59,44,61,60,33,43,45,42,47,37]).size/\(∀y∈(iH (ByteArray.mk #[40,41,123,125,59,44,61,60,33,43,45,42,47,37])).take j,decide ((y.toNat:Int)=c.toNat)=false)/\St w aY [] w1,⟨_,0,rfl,rfl,Nat.zero_le _,by simp,hs⟩,?_⟩;rintro mm _ _ ⟨j,rfl,rfl,hj,Ei,hs⟩ _;refine fg gZ ?_;have JG:(ByteArray.mk #[40,41,123,125,59,44,61,60,33,43,45,42,47,37]).size=14:=rfl;refine aQ (aC (λ ym=>?_) (λ ym=>?_))
 ·obtain⟨e_x31,Pm⟩:∃xx,(iH ((ByteArray.mk #[40,41,123,125,59,44,61,60,33,43,45,42,47,37])))[((j:Int)).toNat]?=some xx:=⟨_,List.getElem?_eq_getElem (by rw[eT];omega)⟩;refine jN gZ (by omega) Pm ?_;obtain⟨uH,oO⟩:∃xx,(iH (s))[((i:Int)).toNat]?=some xx:=⟨_,List.getElem?_eq_getElem (by rw[eT];omega)⟩;refine jN gZ (by omega) oO ?_;obtain rfl:=Option.some.inj (oO.symm.trans hc);refine nA (aC (λ lU=>?_) (λ lU=>aK (by omega) (have hs:=hs.drew;⟨_,by omega,j+1,rfl,rfl,by omega,dR Ei Pm (decide_eq_false lU),hs⟩)));have hs:=hs.drew;have hn2:CH.any (BO s i)=false:=il (by rw[List.take_of_length_le (by omega)]at eD;exact eD)
  exact⟨congrArg (Value.int .i64) (by unfold qx;rw[if_neg (by rw[hn2];simp),if_pos (gU Pm (decide_eq_true lU))]),hs.aF⟩
 have hn2:CH.any (BO s i)=false:=il (by rw[List.take_of_length_le (by omega)]at eD;exact eD);have hn3:=il (g:=λ x:UInt8=>decide ((x.toNat:Int)=c.toNat)) (by rw[List.take_of_length_le (by rw[eT];omega)]at Ei;exact Ei);exact⟨congrArg (Value.int .i64) (by unfold qx;rw[if_neg (by rw[hn2];simp),if_neg (by rw[hn3];simp)]),hs.aF⟩
theorem C209(lv:Value)(l:List bR)(i:Int)(t:ByteArray)(w:World)(hL:dC (λ _=>True) w lv l)(hn:l.length<=1000000):CR 209 [lv,.int .i64 i,.string t] w (λ v w'=>v=.bool (tz l i t)/\Ext w w'):=by
 have hs:=St.start w;refine eS Tryz.func209 ?_;refine⟨λ jv w'=>jv=.bool (tz l i t)/\w=w',cS (aC (λ fL=>aI fG (hL.ext hs.aF) (aQ (aC (λ wB=>?_) (λ wB=>⟨vb (by unfold tz;first|(rw[iQ];grind)|(rw[decide_eq_false (by omega)];rfl)|(rw[List.getElem?_eq_none (by omega)];simp)),rfl⟩)))) (λ fL=>⟨vb (by unfold tz;first|(rw[iQ];grind)|(rw[decide_eq_false (by omega)];rfl)|(rw[List.getElem?_eq_none (by omega)];simp)),rfl⟩)),?_⟩
 ·obtain⟨qM,iQ⟩:=gx (l) (i:=(i).toNat) (by omega);refine aO fG hL (by omega) iQ (λ _ uu=>bW (qM).text nu uu rfl rfl (λ _ mi=>aE gj (mi.ext hs.aF) (iD (aC (λ iF=>?_) (λ iF=>⟨vb (by unfold tz;first|(rw[iQ];grind)|(rw[decide_eq_false (by omega)];rfl)|(rw[List.getElem?_eq_none (by omega)];simp)),rfl⟩)))));refine aO fG hL (by omega) iQ (λ _ ux=>?_);exact bW (qM).kind lr ux rfl rfl (λ _ Eh=>aE bL (Eh.ext hs.aF) (bV (aC (λ qS=>aO fG hL (by omega) iQ (λ _ KQ=>bW (qM).kind lr KQ rfl rfl (λ _ D9=>aE bL (D9.ext hs.aF) (cS (aC (λ ti=>aO fG hL (by omega) iQ (λ _ vH=>bW (qM).kind lr vH rfl rfl (λ _ wS=>aE bL (wS.ext hs.aF) (im ⟨vb (by unfold tz;first|(rw[iQ];grind)|(rw[decide_eq_false (by omega)];rfl)|(rw[List.getElem?_eq_none (by omega)];simp)),rfl⟩)))) (λ ti=>⟨vb (by unfold tz;first|(rw[iQ];grind)|(rw[decide_eq_false (by omega)];rfl)|(rw[List.getElem?_eq_none (by omega)];simp)),rfl⟩)))))) (λ qS=>⟨vb (by unfold tz;first|(rw[iQ];grind)|(rw[decide_eq_false (by omega)];rfl)|(rw[List.getElem?_eq_none (by omega)];simp)),rfl⟩))))
 rintro _ _ ⟨rfl,hw⟩ _;subst hw;exact⟨rfl,hs.aF⟩
theorem C214(lv:Value)(l:List bR)(i:Int)(w:World)(hL:dC (λ _=>True) w lv l)(hn:l.length<=1000000)(rZ:∀x∈l,0<=x.at_/\x.at_<=1000000/\x.text.size<=1000000):CR 214 [lv,.int .i64 i] w (λ v w'=>v=.int .i64 (nd l i)/\Ext w w'):=by
 have hs:=St.start w;refine oY Tryz.func214 (pl:=atP) ?_;refine⟨λ jv w'=>jv=.bool (decide (0<=i/\i<l.length))/\w=w',cS (aC (λ _=>aI fG (hL.ext hs.aF) (aQ ⟨xS (by omega),rfl⟩)) (λ _=>⟨jvF (by omega),rfl⟩)),?_⟩;rintro _ _ ⟨rfl,hw⟩ _;subst hw;refine aC (λ mR=>?_) (λ mR=>aI fG (hL.ext hs.aF) (aH (aC (λ og=>?_) (λ og=>?_))))
 ·obtain⟨D4,qD⟩:=gx (l) (i:=(i).toNat) (by omega);exact aO fG hL (by omega) qD (λ _ ur=>bW (D4).at_ lu ur rfl rfl (λ _ Aj=>aE bL (Aj.ext hs.aF) ⟨congrArg (Value.int .i64) (by unfold nd;rw[if_pos (by omega),qD]),hs.aF⟩))
 ·have hl0:l=[]:=List.length_eq_zero_iff.1 (by omega);subst hl0;exact⟨congrArg (Value.int .i64) (by unfold nd;split<;>simp_all),hs.aF⟩
 refine aI fG (hL.ext hs.aF) (fe (by omega) ?_);obtain⟨RU,EX⟩:=gx (l) (i:=((((l).length:Int)-1)).toNat) (by omega);refine aO fG hL (by omega) EX (λ _ LG=>bW (RU).at_ lu LG rfl rfl (λ _ wD=>have hs:=hs.drew;aE bL (wD.ext hs.aF) (aI fG (hL.ext hs.aF) (fe (by omega) (aO fG hL (by omega) EX (λ _ Au=>bW (RU).text nu Au rfl rfl (λ _ qO=>aE gj (qO.ext hs.aF) (fg gZ ?_))))))));have hax:=rZ _ (List.mem_of_getElem? EX);refine aK (by omega) ?_;have hgl:l.getLast? = some RU:=by rw[List.getLast?_eq_getElem?,<- EX];congr 1;omega
 have eD:(if 0<=i then l[i.toNat]? else none)=none:=by split;exact List.getElem?_eq_none (by omega);rfl
 exact⟨congrArg (Value.int .i64) (by unfold nd;rw[eD,hgl]),hs.aF⟩
def numOf(s:ByteArray)(a k:Nat):Int:=(((iH s).drop a).take (k-a)).foldl (λ n c=>if n<=4294967296 then 10*n+((c.toNat:Int)-48)else n) 0
theorem R5(s:ByteArray)(a:Nat):numOf s a a=0:=by unfold numOf;grind
theorem zi{s:ByteArray}{a k:Nat}{c:UInt8}(ha:a<=k)(h:(iH s)[k]?=some c):numOf s a (k+1)=if numOf s a k<=4294967296 then 10*numOf s a k+((c.toNat:Int)-48)else numOf s a k:=by
 unfold numOf
 rw[show k+1-a=(k-a)+1 from by omega,List.take_add_one,List.getElem?_drop,show a+(k-a)=k from by omega,h,Option.toList_some,List.foldl_append]
 rfl
theorem adB{s:ByteArray}{a:Nat}:∀{k:Nat},a<=k->k<=s.size->(∀j c,a<=j->j<k->(iH s)[j]?=some c->48<=(c.toNat:Int)/\(c.toNat:Int)<=57)->0<=numOf s a k/\numOf s a k<=42949672969:=by
 intro k
 induction k with
 | zero=>
  grind[iH,numOf]
 | succ k ih=>
  intro ha hk hd
  by_cases e:a=k+1
  ·subst e;rw[R5];omega
  ·have:=ih (by omega) (by omega) λ j c h1 h2=>hd j c h1 (by omega)
   obtain⟨c,hc⟩:∃c,(iH s)[k]?=some c:=⟨_,List.getElem?_eq_getElem (by rw[eT];omega)⟩
   have h2:=hd k c (by omega) (by omega) hc
   rw[zi (by omega) hc]
   omega
def mE(s:ByteArray):Nat->Nat->List bR->Option (List bR×Int×Int)
 | 0,_,_=>none
 | n+1,a,out=>match (iH s)[a]? with
  | none=>some (out,0,0)
  | some c=>
   if gm c.toNat=true then(if 16<vT sy s a-a then some ([],2,(a:Int))else(kY s (s.size+1) (vT sy s a)).bind λ a'=>mE s n a' (out++[⟨1,s.extract a (vT sy s a),0,a⟩]))
   else if j6 c.toNat=true then(if 4294967296<numOf s a (vT vU s a)then some ([],4,(a:Int))else(kY s (s.size+1) (vT vU s a)).bind λ a'=>mE s n a' (out++[⟨2,s.extract a (vT vU s a),numOf s a (vT vU s a),a⟩]))
   else if qx s a c=0 then some ([],3,(a:Int))else(kY s (s.size+1) (a+(qx s a c).toNat)).bind λ a'=>mE s n a' (out++[⟨3,s.extract a (a+(qx s a c).toNat),0,a⟩])
def vJ(s:ByteArray):Option (List bR×Int×Int):=if 4000<s.size then some ([],2,4000)else(kY s (s.size+1) 0).bind λ a=>mE s (s.size+2) a []
theorem Pn{s:ByteArray}{n a:Nat}{out:List bR}{r:List bR×Int×Int}(h:mE s n a out=some r):∃k,n=k+1:=by
 cases n with
 | zero=>cases h
 | succ k=>grind
def xJ(s:ByteArray)(k a:Nat)(out:List bR)(R:List bR×Int×Int)(kd:Int)(e:Nat)(n:Int):Prop:=a<e/\e<=s.size/\∃a',kY s (s.size+1) e=some a'/\mE s k a' (out++[⟨kd,s.extract a e,n,a⟩])=some R
section
variable {s:ByteArray}{k a:Nat}{c:UInt8}{out:List bR}{R:List bR×Int×Int}
theorem TU(h:mE s (k+1) a out=some R)(ha:s.size<=a):R=(out,0,0):=by
 unfold mE at h;rw[List.getElem?_eq_none (by rw[eT];exact ha)]at h;grind
theorem F7(h:mE s (k+1) a out=some R)(hc:(iH s)[a]?=some c)(hl:gm c.toNat=true)(hb:16<vT sy s a-a):R=([],2,(a:Int)):=by
 unfold mE at h;grind
theorem BP{e:Nat}{kd n:Int}(h:((kY s (s.size+1) e).bind λ a'=>mE s k a' (out++[⟨kd,s.extract a e,n,a⟩]))=some R)(h1:a<e)(h2:e<=s.size):xJ s k a out R kd e n:=by
 cases hp:kY s (s.size+1) e with
 | none=>grind
 | some a'=>grind[xJ]
theorem TV(h:mE s (k+1) a out=some R)(hc:(iH s)[a]?=some c)(hl:gm c.toNat=true)(hb:¬ 16<vT sy s a-a)(hgt:a<vT sy s a):xJ s k a out R 1 (vT sy s a) 0:=by
 unfold mE at h;rw[hc]at h;dsimp only at h;rw[if_pos hl,if_neg hb]at h
 have:=qH hc;have h2:=Pl (s:=s) (a:=a) sy
 exact BP h hgt (by omega)
theorem Jc(h:mE s (k+1) a out=some R)(hc:(iH s)[a]?=some c)(hl:gm c.toNat=false)(hd:j6 c.toNat=true)(hb:4294967296<numOf s a (vT vU s a)):R=([],4,(a:Int)):=by
 unfold mE at h;grind
theorem YO(h:mE s (k+1) a out=some R)(hc:(iH s)[a]?=some c)(hl:gm c.toNat=false)(hd:j6 c.toNat=true)(hb:¬ 4294967296<numOf s a (vT vU s a))(hgt:a<vT vU s a):xJ s k a out R 2 (vT vU s a) (numOf s a (vT vU s a)):=by
 unfold mE at h;rw[hc]at h;dsimp only at h;rw[if_neg (by grind),if_pos hd,if_neg hb]at h
 have:=qH hc;have h2:=Pl (s:=s) (a:=a) vU
 exact BP h hgt (by omega)
theorem TW(h:mE s (k+1) a out=some R)(hc:(iH s)[a]?=some c)(hl:gm c.toNat=false)(hd:j6 c.toNat=false)(hb:qx s a c=0):R=([],3,(a:Int)):=by
 unfold mE at h;grind
theorem YP(s:ByteArray)(a:Nat)(c:UInt8):qx s a c=0\/qx s a c=1\/qx s a c=2:=by
 grind[qx]
theorem R6{s:ByteArray}{a:Nat}{c:UInt8}(h:(iH s)[a]?=some c):(a:Int)+qx s a c<=s.size:=by
 have hk:=qH h
 unfold qx
 split
 ·rename_i h2
  rw[List.any_eq_true]at h2
  obtain⟨t,ht,hb⟩:=h2
  have:t.size=2:=by
   have vX:∀t∈CH,t.size=2:=by decide
   grind
  unfold BO at hb
  grind
 omega
theorem TX(h:mE s (k+1) a out=some R)(hc:(iH s)[a]?=some c)(hl:gm c.toNat=false)(hd:j6 c.toNat=false)(hb:¬ qx s a c=0):xJ s k a out R 3 (a+(qx s a c).toNat) 0:=by
 unfold mE at h;rw[hc]at h;dsimp only at h;rw[if_neg (by grind),if_neg (by grind),if_neg hb]at h
 have h1:=YP s a c;have h2:=R6 hc
 exact BP h (by omega) (by omega)
end
theorem C130(s:ByteArray)(R:List bR×Int×Int)(w:World)(Tb:s.size<=1000000)(hr:vJ s=some R):CR 130 [.string s] w (λ v w'=>∃o,v=.tuple #[o,.int .i64 R.2.1,.int .i64 R.2.2]/\lL (bG o R.1) w w'):=by
 have hs:=St.start w;refine abc _ _ _ ?_;unfold S130;refine fg gZ (cP (aC (λ ju=>?_) (λ ju=>?_)))
 ·have hR:([],2,4000)=R:=by unfold vJ at hr;rw[if_pos (by omega)]at hr;exact Option.some.inj hr
  subst hR;exact⟨_,rfl,hs.eJ.fresh⟩
 have h4:s.size<=4000:=by omega
 obtain⟨a0,ha0,NA⟩:∃a0,kY s (s.size+1) 0=some a0/\mE s (s.size+2) a0 []=some R:=by
  unfold vJ at hr;rw[if_neg (by omega)]at hr;cases hq:kY s (s.size+1) 0 with
  | none=>rw[hq]at hr;cases hr
  | some a0=>rw[hq]at hr;exact⟨a0,rfl,hr⟩
 have aw5:=AK ha0 (by omega);refine aX (([]:List bR)) hs fG rfl rfl (dI rfl) (λ s_x12 _ hs=>aT aeZ hs (C205 s 0 (s.size+1) a0 _ (by omega) (by omega) ha0) (λ _ he hs=>?_));refine⟨λ mm o x w'=>∃(a:Nat) (out:List bR),x=.int .i64 (a:Int)/\a<=s.size/\out.length<=a/\mE s mm a out=some R/\St w aY [bG o out] w',⟨_,a0,[],rfl,aw5.2,Nat.zero_le _,NA,hs⟩,?_⟩;rintro mm uT _ _ ⟨a,out,rfl,ha,JG,hp,hs⟩ _;obtain⟨k,rfl⟩:=Pn hp;refine fg gZ (aQ (aC (λ lB=>pop (VR _) (aM hs abD (λ TY _ hs=>aJ (x:=(⟨0,(ByteArray.mk #[]),0,(a:Int)⟩:bR)) hs afd rfl rfl (λ _ hs=>⟨λ to w'=>∃(kd:Int) (e:Nat) (n:Int),to=.int .i64 (e:Int)/\xJ s k a out R kd e n/\St w aY [bY TY (Flat.enc (⟨kd,ByteArray.mk #[],n,(a:Int)⟩:bR)),bG uT out] w',?_,?_⟩)))) (λ lB=>?_)))
 ·obtain⟨iG,mh⟩:∃xx,(iH (s))[((a:Int)).toNat]?=some xx:=⟨_,List.getElem?_eq_getElem (by rw[eT];omega)⟩;refine jN gZ (by omega) mh ?_;have hca:(iH s)[a]?=some iG:=mh;refine aT QH hs (C206 _ _) (λ _ he hs=>aW (λ jw=>?_) (λ jw=>?_))
  ·have hla:=jw;refine aA lr (aS hs bL (dI rfl) (rfl) (λ _ hs=>?_));have hs:=hs.enc (cs':=Flat.enc ({ (⟨0,(ByteArray.mk #[]),0,(a:Int)⟩:bR)with kind:=1}:bR)) rfl;have hs:=hs.p1.p1;refine⟨λ mm x w'=>∃j:Nat,x=.int .i64 (j:Int)/\mm=s.size-j/\a<=j/\j<=s.size/\vT sy s a=vT sy s j/\St w aY [bY TY (Flat.enc (⟨1,ByteArray.mk #[],0,(a:Int)⟩:bR)),bG uT out] w',⟨_,a,rfl,rfl,Nat.le_refl _,ha,rfl,hs⟩,?_⟩;rintro mm _ _ ⟨j,rfl,rfl,haj,hj,iL,hs⟩ _;refine⟨λ jv w'=>jv=.bool (match (iH s)[j]? with|some c=>sy c|none=>false)/\St w aY [bY TY (Flat.enc (⟨1,ByteArray.mk #[],0,(a:Int)⟩:bR)),bG uT out] w',fg gZ (aQ (aC (λ qS=>?_) (λ qS=>⟨vb (by first|(rw[show(iH s)[j]?=some uH from oO];show _=(gm uH.toNat||j6 uH.toNat);rw[lU];rfl)|(rw[List.getElem?_eq_none (by rw[eT];omega)])),hs⟩))),?_⟩
   ·obtain⟨uH,oO⟩:∃xx,(iH (s))[((j:Int)).toNat]?=some xx:=⟨_,List.getElem?_eq_getElem (by rw[eT];omega)⟩;refine jN gZ (by omega) oO ?_;have hcj0:(iH s)[j]?=some uH:=oO;exact aT QH hs (C206 _ _) (λ _ he hs=>aW (λ lU=>⟨vb (by first|(rw[show(iH s)[j]?=some uH from oO];show _=(gm uH.toNat||j6 uH.toNat);rw[lU];rfl)|(rw[List.getElem?_eq_none (by rw[eT];omega)])),hs⟩) (λ lU=>jN gZ (by omega) oO (aT QI hs (C207 _ _) (λ _ he hs=>⟨vb (by first|(rw[show(iH s)[j]?=some uH from oO];show _=(gm uH.toNat||j6 uH.toNat);rw[lU];rfl)|(rw[List.getElem?_eq_none (by rw[eT];omega)])),hs⟩))))
   rintro _ _ ⟨rfl,hs⟩ _;refine aW (λ qk=>?_) (λ qk=>?_)
   ·refine aK (by omega) ?_
    have R4:∃c,(iH s)[j]?=some c/\sy c=true:=by
     cases hc:(iH s)[j]? with
     | none=>rw[hc]at qk;cases qk
     | some c=>rw[hc]at qk;exact⟨c,rfl,qk⟩
    obtain⟨cj,CI,TT⟩:=R4;have Dt:=qH CI;exact⟨_,by omega,j+1,rfl,rfl,by omega,by omega,iL.trans (E6 CI TT),hs⟩
   have vm:vT sy s j=j:=by
    by_cases hjs:j<s.size
    ·obtain⟨cj,R4⟩:∃c,(iH s)[j]?=some c:=⟨_,List.getElem?_eq_getElem (by rw[eT];exact hjs)⟩;rw[R4]at qk;exact E7 R4 qk
    ·exact Jb (by omega)
   refine fe (by omega) (cP (aC (λ Rl=>?_) (λ Rl=>?_)))
   ·have hs:=((hs.drop)).drop;have hR:=F7 hp hca hla (by rw[iL,vm];omega);subst hR;exact⟨_,rfl,hs.eJ.fresh⟩
   have hs:=hs.p1.p1
   have hgt:a<j:=by
    rcases Nat.lt_or_ge a j with h|h
    ·exact h
    ·obtain rfl:j=a:=by omega
     rw[hca]at qk;have h9:sy iG=false:=qk;unfold sy at h9;rw[hla]at h9;cases h9
   have YQ:=TV hp hca hla (by rw[iL,vm];omega) (by rw[iL,vm];exact hgt);rw[iL,vm]at YQ;exact⟨1,j,0,rfl,YQ,hs⟩
  have hla:=jw;refine jN gZ (by omega) mh (aT QI hs (C207 _ _) (λ _ he hs=>aW (λ Cd=>?_) (λ Cd=>?_)))
  ·have hda:=Cd;refine aA lr (aS hs bL (dI rfl) (rfl) (λ _ hs=>?_));have hs:=hs.enc (cs':=Flat.enc ({ (⟨0,(ByteArray.mk #[]),0,(a:Int)⟩:bR)with kind:=2}:bR)) rfl;have hs:=hs.p1.p1;refine⟨λ mm x w'=>∃j:Nat,x=.int .i64 (j:Int)/\mm=s.size-j/\a<=j/\j<=s.size/\vT vU s a=vT vU s j/\(∀(i:Nat) (c:UInt8),a<=i->i<j->(iH s)[i]?=some c->48<=(c.toNat:Int)/\(c.toNat:Int)<=57)/\St w aY [bY TY (Flat.enc (⟨2,ByteArray.mk #[],(numOf s a j),(a:Int)⟩:bR)),bG uT out] w',⟨_,a,rfl,rfl,Nat.le_refl _,ha,rfl,λ _ _ h1 _=>absurd h1 (by omega),by rw[R5];exact hs⟩,?_⟩;rintro mm _ _ ⟨j,rfl,rfl,haj,hj,iL,hdg,hs⟩ _
   refine⟨λ jv w'=>jv=.bool (match (iH s)[j]? with|some c=>vU c|none=>false)/\St w aY [bY TY (Flat.enc (⟨2,ByteArray.mk #[],(numOf s a j),(a:Int)⟩:bR)),bG uT out] w',fg gZ (aQ (aC (λ GM=>?_) (λ GM=>⟨vb (by first|(rw[show(iH s)[j]?=some agp from Po];rfl)|(rw[List.getElem?_eq_none (by rw[eT];omega)])),hs⟩))),?_⟩
   ·obtain⟨agp,Po⟩:∃xx,(iH (s))[((j:Int)).toNat]?=some xx:=⟨_,List.getElem?_eq_getElem (by rw[eT];omega)⟩;exact jN gZ (by omega) Po (aT QI hs (C207 _ _) (λ _ he hs=>⟨vb (by first|(rw[show(iH s)[j]?=some agp from Po];rfl)|(rw[List.getElem?_eq_none (by rw[eT];omega)])),hs⟩))
   rintro _ _ ⟨rfl,hs⟩ _;refine aW (λ uE=>?_) (λ uE=>?_)
   ·have R4:∃c,(iH s)[j]?=some c/\vU c=true:=by
     cases hc:(iH s)[j]? with
     | none=>rw[hc]at uE;cases uE
     | some c=>rw[hc]at uE;exact⟨c,rfl,uE⟩
    obtain⟨cj,CI,TT⟩:=R4;have Dt:=qH CI;have hcd:=TT;unfold vU j6 at hcd;rw[decide_eq_true_eq]at hcd;have YA:=adB haj (by omega) hdg;refine⟨λ w'=>St w aY [bY TY (Flat.enc (⟨2,ByteArray.mk #[],(numOf s a (j+1)),(a:Int)⟩:bR)),bG uT out] w',aA rO (aB (v:=.int .i64 (numOf s a j)) bL hs.hb rfl (im (aC (λ D2=>?_) (λ D2=>?_)))),?_⟩
    ·refine aA rO (have hs:=hs.drew;aB (v:=.int .i64 (numOf s a j)) bL hs.hb rfl (H6 (by omega) ?_));obtain⟨aqn,YR⟩:∃xx,(iH (s))[((j:Int)).toNat]?=some xx:=⟨_,List.getElem?_eq_getElem (by rw[eT];omega)⟩;refine jN gZ (by omega) YR ?_;obtain rfl:=Option.some.inj (YR.symm.trans (show(iH s)[((j:Int)).toNat]?=some cj from CI));refine Yr (by omega) (TI aum Kh (by omega) (aK (by omega) (aA rO (aS hs bL (dI rfl) (rfl) (λ _ hs=>?_)))));have hs:=hs.enc (cs':=Flat.enc ({ (⟨2,ByteArray.mk #[],(numOf s a j),(a:Int)⟩:bR)with n:=((10*(numOf s a j))+((aqn.toNat:Int)-48))}:bR)) rfl
     have hs:=hs.p1.p1;rw[zi haj CI,if_pos D2];exact hs
    ·have hs:=hs.p1.p1;rw[zi haj CI,if_neg D2];exact hs
    intro _ hs _;refine aK (by omega) ?_
    exact⟨_,by omega,j+1,rfl,rfl,by omega,by omega,iL.trans (E6 CI TT),λ i c h1 h2 h3=>by
     by_cases e:i=j
     ·subst e;obtain rfl:=Option.some.inj (h3.symm.trans CI);omega
     ·exact hdg i c h1 (by omega) h3,hs⟩
   have vm:vT vU s j=j:=by
    by_cases hjs:j<s.size
    ·obtain⟨cj,R4⟩:∃c,(iH s)[j]?=some c:=⟨_,List.getElem?_eq_getElem (by rw[eT];exact hjs)⟩;rw[R4]at uE;exact E7 R4 uE
    ·exact Jb (by omega)
   refine aA rO (aB (v:=.int .i64 (numOf s a j)) bL hs.hb rfl (cP (aC (λ afB=>?_) (λ afB=>?_))))
   ·have hs:=((hs.drop)).drop;have hR:=Jc hp hca hla hda (by rw[iL,vm];omega);subst hR;exact⟨_,rfl,hs.eJ.fresh⟩
   have hs:=hs.p1.p1
   have hgt:a<j:=by
    rcases Nat.lt_or_ge a j with h|h
    ·exact h
    ·obtain rfl:j=a:=by omega
     rw[hca]at uE;have h9:vU iG=false:=uE;unfold vU at h9;rw[hda]at h9;cases h9
   have YQ:=YO hp hca hla hda (by rw[iL,vm];omega) (by rw[iL,vm];exact hgt);rw[iL,vm]at YQ;exact⟨2,j,_,rfl,YQ,hs⟩
  have hda:=Cd;have hsb:=YP s a iG;have hsi:=R6 hca;refine aA lr (aS hs bL (dI rfl) (rfl) (λ _ hs=>have hs:=hs.enc (cs':=Flat.enc ({ (⟨0,(ByteArray.mk #[]),0,(a:Int)⟩:bR)with kind:=3}:bR)) rfl;aT al9 hs (C208 s a iG _ Tb hca) (λ _ he hs=>aK (by omega) (aH (aC (λ aqo=>?_) (λ aqo=>?_))))))
  ·have hs:=((hs.drop)).drop;have hR:=TW hp hca hla hda (by omega);subst hR;exact⟨_,rfl,hs.eJ.fresh⟩
  have hs:=hs.p1.p1;have YQ:=TX hp hca hla hda (by omega);exact⟨3,a+(qx s a iG).toNat,0,by congr 1;omega,YQ,hs⟩
 ·rintro _ _ ⟨kd,e,n,rfl,YQ,hs⟩ _;have aw6:=YQ;obtain⟨h1e0,h2e0,_⟩:=aw6;refine KF gZ (by omega) (by omega) (by omega) (aA nu (aS hs gj (dI rfl) (rfl) (λ _ hs=>have hs:=hs.enc (cs':=Flat.enc ({ (⟨kd,ByteArray.mk #[],n,(a:Int)⟩:bR)with text:=((s).extract ((a:Int)).toNat ((e:Int)).toNat)}:bR)) rfl;aE afd hs.At (aX ([(⟨kd,s.extract (a:Int).toNat (e:Int).toNat,n,(a:Int)⟩:bR)]) hs fG rfl rfl (dI rfl) (λ ai7 _ hs=>?_)))));have adC:=(hs).dX;refine bI hs.p2 fG adC (by simp;omega) (by decide) (λ ai8 _ hs=>?_);have hs:=hs.p1.drop;obtain⟨h1e,h2e,a2,ha2,hp2⟩:=YQ
  have aw7:=AK ha2 h2e;exact aT aeZ hs (C205 s e (s.size+1) a2 _ (by omega) (by omega) ha2) (λ _ _ hs=>have hs:=(hs.p1).drop;⟨k,by omega,a2,_,rfl,aw7.2,by simp;omega,hp2,hs⟩)
 have hR:=TU hp (by omega);subst hR;exact⟨_,rfl,hs.fresh⟩
structure fH where
 l:(List bX)
 to:Int
 e:Int
 at_:Int
deriving DecidableEq
structure dS where
 l:SV
 to:Int
 e:Int
 at_:Int
instance:Flat dS where
 agg:=true
 sz:=4
 enc e:=[.slice e.l.a e.l.n e.l.cap,.int .i64 e.to,.int .i64 e.e,.int .i64 e.at_]
 val e:=.agg [.slice e.l.a e.l.n e.l.cap,.int .i64 e.to,.int .i64 e.e,.int .i64 e.at_].toArray
 pos:=by decide
 len _:=rfl
 one a v h:=by grind[uV]
 m6 _ _:=rfl
 nn h:=by cases h
instance:Deep fH dS where
 dr w s x:=∃(l_:SV),s=(⟨l_,x.to,x.e,x.at_⟩:dS)/\DL w (Flat.val l_) x.l
 ext h e:=by
  obtain⟨g0,rfl,h0⟩:=h
  exact⟨g0,rfl,h0.ext e⟩
theorem lf{w:World}{sh:dS}{x:fH}(h:Deep.dr w sh x):DL w (Flat.val sh.l) x.l:=by obtain⟨_,rfl,h⟩:=h;exact h
def qI(n:Int):List Int:=if n=0 then [15]else if n=1 then [14]else if n=2 then [10,11,12,13]else if n=3 then [5,6]else [7,8,9]
def Db:List ByteArray:=[⟨#[]⟩,⟨#[]⟩,⟨#[]⟩,⟨#[45]⟩,⟨#[33]⟩,⟨#[43]⟩,⟨#[45]⟩,⟨#[42]⟩,⟨#[47]⟩,⟨#[37]⟩,⟨#[61,61]⟩,⟨#[33,61]⟩,⟨#[60]⟩,⟨#[60,61]⟩,⟨#[38,38]⟩,⟨#[124,124]⟩]
def MA(k:Int):ByteArray:=(Db[k.toNat]?).getD ⟨#[]⟩
def gh(l:List bR)(i e:Int):fH:=⟨[],0,if (l.length:Int)<=i then 6 else e,nd l i⟩
abbrev aqp(r:fH)(w:World):=tX λ v w'=>∃sh:dS,v=Flat.val sh/\lL (fk (λ w=>Deep.dr w sh r)) w w'
def ai9(l:List bR)(rec:Int->Int->Int->Option fH):Prop:=∀(lv:Value) (i d n:Int) (r:fH) (w:World),dC (λ _=>True) w lv l->rec i d n=some r->0<=i/\i<=l.length->0<=d/\d<=12->0<=n/\n<=5->
 Calls Tryz.prog 258 [lv,.int .i64 i,.int .i64 d,.int .i64 n].toArray w (aqp r w)/\(n=5->Calls Tryz.prog 294 [lv,.int .i64 i,.int .i64 d].toArray w (aqp r w))
structure jb(l:List bR):Prop where
 n:l.length<=5000
 at_:∀x∈l,0<=x.at_/\x.at_<=1000000/\x.text.size<=1000000
def TZ(l:List bR)(i:Int):Bool:=tz l i ⟨#[33]⟩||tz l i ⟨#[45]⟩
def oV(rec:Int->Int->Int->Option fH)(l:List bR)(i d:Int):Option fH:=
 match (if (l.length:Int)<=i then none else l[i.toNat]?)with
 | none=>some (gh l i 6)
 | some t=>if ((TZ l i||tz l i ⟨#[40]⟩)&&decide (d=12))=true then some (gh l i 7)
  else if TZ l i=true then(rec (i+1) (d+1) 5).bind λ x=>if x.l.length<=10000 then some (if x.e≠0 then x else {x with l:=[⟨if t.text=⟨#[45]⟩then 3 else 4,0,⟨#[]⟩,t.at_⟩]++x.l})else none
  else if tz l i ⟨#[40]⟩=true then(rec (i+1) (d+1) 0).bind λ x=>some (if x.e≠0 then x else if tz l x.to ⟨#[41]⟩=true then {x with to:=x.to+1}else gh l x.to 5)
  else if t.kind=2 then some ⟨[⟨1,t.n,⟨#[]⟩,t.at_⟩],i+1,0,0⟩
  else if (decide (t.kind=1)&&gB t.text)=true then some ⟨[⟨2,0,t.text,t.at_⟩],i+1,0,0⟩
  else some (gh l i 5)
def E8(l:List bR)(to n:Int)(k:Nat):Int:=((qI n).take k).foldl (λ op f=>if tz l to (MA f)=true then f else op) 0
def Jd(l:List bR)(to n:Int):Int:=E8 l to n (qI n).length
theorem Hl{l:List bR}{to n:Int}{k:Nat}{f:Int}(h:(qI n)[k]?=some f):E8 l to n (k+1)=if tz l to (MA f)=true then f else E8 l to n k:=by
 unfold E8;rw[List.take_add_one,h,Option.toList_some,List.foldl_append];rfl
def vK(rec:Int->Int->Int->Option fH)(l:List bR)(d n:Int):Nat->fH->Option fH
 | 0,_=>none
 | k+1,x=>if x.e≠0 then some x else if Jd l x.to n=0 then some x else match (if 0<=x.to then l[x.to.toNat]? else none)with
  | none=>none
  | some t=>match rec (x.to+1) d (n+1)with
   | none=>none
   | some y=>if y.e≠0 then some y else if x.l.length+y.l.length<=10000 then
     (if n=2 then some ⟨[⟨Jd l x.to n,0,⟨#[]⟩,t.at_⟩]++x.l++y.l,y.to,0,0⟩else vK rec l d n k ⟨[⟨Jd l x.to n,0,⟨#[]⟩,t.at_⟩]++x.l++y.l,y.to,0,0⟩)else none
def Hm(l:List bR):Nat->Int->Int->Int->Option fH
 | 0,_,_,_=>none
 | k+1,i,d,n=>if n=5 then oV (Hm l k) l i d else(Hm l k i d (n+1)).bind (vK (Hm l k) l d n k)
theorem YS{n:Int}{k:Nat}{f:Int}(h:(qI n)[k]?=some f):5<=f/\f<=15:=by
 have hm:=List.mem_of_getElem? h
 unfold qI at hm
 grind
section
variable {rec:Int->Int->Int->Option fH}{l:List bR}{i d n:Int}{r x y:fH}{t:bR}{k:Nat}
theorem Pp(h:oV rec l i d=some r)(hl:(l.length:Int)<=i):r=gh l i 6:=by
 unfold oV at h;grind
theorem MC(h:oV rec l i d=some r)(hl:¬ (l.length:Int)<=i)(ht:l[i.toNat]?=some t)(hd:((TZ l i||tz l i ⟨#[40]⟩)&&decide (d=12))=true):r=gh l i 7:=by
 unfold oV at h;grind
theorem T0(h:oV rec l i d=some r)(hl:¬ (l.length:Int)<=i)(ht:l[i.toNat]?=some t)(hd:((TZ l i||tz l i ⟨#[40]⟩)&&decide (d=12))=false)(hu:TZ l i=true) :
  ∃x,rec (i+1) (d+1) 5=some x/\x.l.length<=10000/\r=if x.e≠0 then x else {x with l:=[⟨if t.text=⟨#[45]⟩then 3 else 4,0,⟨#[]⟩,t.at_⟩]++x.l}:=by
 unfold oV at h;rw[if_neg hl,ht]at h;dsimp only at h;rw[if_neg (by grind),if_pos hu]at h
 cases hr:rec (i+1) (d+1) 5 with
 | none=>grind
 | some x=>
  grind
theorem MD(h:oV rec l i d=some r)(hl:¬ (l.length:Int)<=i)(ht:l[i.toNat]?=some t)(hd:((TZ l i||tz l i ⟨#[40]⟩)&&decide (d=12))=false)(hu:TZ l i=false)(ho:tz l i ⟨#[40]⟩=true) :
  ∃x,rec (i+1) (d+1) 0=some x/\r=if x.e≠0 then x else if tz l x.to ⟨#[41]⟩=true then {x with to:=x.to+1}else gh l x.to 5:=by
 unfold oV at h;rw[if_neg hl,ht]at h;dsimp only at h;rw[if_neg (by grind),if_neg (by grind),if_pos ho]at h
 cases hr:rec (i+1) (d+1) 0 with
 | none=>grind
 | some x=>grind
theorem ME(h:oV rec l i d=some r)(hl:¬ (l.length:Int)<=i)(ht:l[i.toNat]?=some t)(hd:((TZ l i||tz l i ⟨#[40]⟩)&&decide (d=12))=false)(hu:TZ l i=false)(ho:tz l i ⟨#[40]⟩=false) :
  r=if t.kind=2 then⟨[⟨1,t.n,⟨#[]⟩,t.at_⟩],i+1,0,0⟩else if (decide (t.kind=1)&&gB t.text)=true then⟨[⟨2,0,t.text,t.at_⟩],i+1,0,0⟩else gh l i 5:=by
 unfold oV at h;grind
theorem Pq(h:vK rec l d n k x=some r):∃j,k=j+1:=by
 cases k with
 | zero=>cases h
 | succ j=>grind
theorem adD(h:vK rec l d n (k+1) x=some r)(he:x.e≠0):r=x:=by
 unfold vK at h;grind
theorem YT(h:vK rec l d n (k+1) x=some r)(he:¬ x.e≠0)(ho:Jd l x.to n=0):r=x:=by
 unfold vK at h;grind
theorem YU(h:vK rec l d n (k+1) x=some r)(he:¬ x.e≠0)(ho:¬ Jd l x.to n=0):∃t y,0<=x.to/\l[x.to.toNat]?=some t/\rec (x.to+1) d (n+1)=some y/\(y.e≠0->r=y)/\
  (¬ y.e≠0->x.l.length+y.l.length<=10000/\(n=2->r=⟨[⟨Jd l x.to n,0,⟨#[]⟩,t.at_⟩]++x.l++y.l,y.to,0,0⟩)/\(¬ n=2->vK rec l d n k ⟨[⟨Jd l x.to n,0,⟨#[]⟩,t.at_⟩]++x.l++y.l,y.to,0,0⟩=some r)):=by
 unfold vK at h;grind
theorem agq(h:Hm l (k+1) i d 5=some r):oV (Hm l k) l i d=some r:=by grind[oV,Hm]
theorem aqq(h:Hm l (k+1) i d n=some r)(hn:¬ n=5):∃x,Hm l k i d (n+1)=some x/\vK (Hm l k) l d n k x=some r:=by
 unfold Hm at h;rw[if_neg hn]at h
 cases hx:Hm l k i d (n+1)with
 | none=>grind
 | some x=>grind
end
def vL(l:List bR)(i:Int):Option (List bX×Int×Int×Int):=if i<0 then some ([],0,1,0)else(Hm l 10000 i 0 0).bind λ x=>
 if x.e≠0 then some ([],0,x.e,x.at_)else match yP x.l,l[i.toNat]? with
  | some t,some k=>if x.l.length<=10000 then(if 12<t.depth then some ([],0,7,k.at_)else if 40<x.l.length then some ([],0,2,k.at_)else some (x.l,x.to,0,0))else none
  | _,_=>none
theorem Pr(n:Int):(qI n).length<=4:=by
 grind[qI]
theorem C295(n:Int)(w:World)(hn:0<=n/\n<=4):CR 295 [.int .i64 n] w (λ v w'=>lL (bG v (qI n)) w w'):=by
 have hs:=St.start w;refine eS Tryz.func295 ?_;refine aX (([15]:List Int)) hs cM rfl rfl (dI rfl) (λ aqr _ hs=>aX (([14]:List Int)) hs cM rfl rfl (dI rfl) (λ auV _ hs=>aX (([10,11,12,13]:List Int)) hs cM rfl rfl (dI rfl) (λ Oe _ hs=>aX (([5,6]:List Int)) hs cM rfl rfl (dI rfl) (λ acE _ hs=>aX (([7,8,9]:List Int)) hs cM rfl rfl (dI rfl) (λ acJ _ hs=>?_)))));obtain⟨R7,rfl⟩:=(hs.p4).fC;obtain⟨C4,rfl⟩:=(hs.p3).fC;obtain⟨R8,rfl⟩:=(hs.p2).fC;obtain⟨R9,rfl⟩:=(hs.p1).fC;obtain⟨Sa,rfl⟩:=(hs).fC;refine aX ([R7,C4,R8,R9,Sa]) hs Gy rfl rfl (dI rfl) (λ aja _ hs=>?_)
 have hs:=((((((((((((hs.abJ (α:=Int))).p6).p1).DP).p5).p1).DP).p4).p1).DP).p3).p1;have hs:=hs.DP.p2.p1.DP;obtain rfl|rfl|rfl|rfl|rfl:n=0\/n=1\/n=2\/n=3\/n=4:=by omega
 ·have adE:=hs.z7;exact dM hs.p1 Gy (by decide) (by simp) (λ _ qo=>gD hs.p1 eg qo (show _=some R7 from rfl) (have hs:=hs.split;hs.fresh))
 ·have adE:=hs.z7;exact dM hs.p1 Gy (by decide) (by simp) (λ _ qo=>gD hs.p1 eg qo (show _=some C4 from rfl) (have hs:=hs.split.drop.split;hs.fresh))
 ·have adE:=hs.z7;exact dM hs.p1 Gy (by decide) (by simp) (λ _ qo=>gD hs.p1 eg qo (show _=some R8 from rfl) (have hs:=hs.split.drop.split.drop.split;hs.fresh))
 ·have adE:=hs.z7;exact dM hs.p1 Gy (by decide) (by simp) (λ _ qo=>gD hs.p1 eg qo (show _=some R9 from rfl) (have hs:=hs.split.drop.split.drop.split.drop.split;hs.fresh))
 have adE:=hs.z7;exact dM hs.p1 Gy (by decide) (by simp) (λ _ qo=>gD hs.p1 eg qo (show _=some Sa from rfl) (have hs:=hs.split.drop.split.drop.split.drop.split.drop.split;hs.fresh))
theorem C296(k:Int)(w:World)(hk:0<=k/\k<=15):CR 296 [.int .i64 k] w (λ v w'=>v=.string (MA k)/\Ext w w'):=by
 have hs:=St.start w;refine eS Tryz.func296 ?_;refine aX (Db) hs ik rfl rfl (dI rfl) (λ aqr _ hs=>?_);have UF:Db.length=16:=rfl;obtain⟨aw8,MF⟩:=gx (Db) (i:=(k).toNat) (by omega);refine dM hs ik (by omega) (by omega) (λ _ ajb=>gD hs gj ajb MF ?_);refine⟨?_,hs.drop.aF⟩;unfold MA;rw[MF];rfl
theorem C320(lv:Value)(l:List bR)(i e:Int)(w:World)(hL:dC (λ _=>True) w lv l)(hk:jb l):CR 320 [lv,.int .i64 i,.int .i64 e] w (λ v w'=>∃sh:dS,v=Flat.val sh/\lL (fk (λ w=>Deep.dr w sh (gh l i e))) w w'):=by
 have C5:=hk.n;have hn:l.length<=1000000:=by omega
 have rZ:=hk.at_;have hs:=St.start w;refine abv _ _ _ _ _ ?_;unfold S320;refine aM hs td (λ O9 w1 hs=>have hs:=hs.enc (cs':=Flat.enc (⟨cH,0,0,0⟩:dS)) rfl;⟨λ jv w'=>jv=.int .i64 (if (l.length:Int)<=i then 6 else e)/\w1=w',aI fG (hL.ext hs.aF) (cS (aC (λ _=>⟨by rw[if_pos (by omega)],rfl⟩) (λ _=>⟨by rw[if_neg (by omega)],rfl⟩))),?_⟩);rintro _ _ ⟨rfl,hw⟩ _;subst hw;exact aT Gp hs (C214 _ l i _ (hL.ext hs.aF) hn rZ) (λ _ _ hs=>pop (N6 _ _) (aJ (x:=(⟨cH,0,(if (l.length:Int)<=i then 6 else e),(nd l i)⟩:dS)) hs fR rfl rfl (λ _ hs=>aE fR hs.At (have hs:=hs.fT (Φ:=(λ w=>Deep.dr w (⟨cH,0,(if (l.length:Int)<=i then 6 else e),(nd l i)⟩:dS) (⟨[],0,(if (l.length:Int)<=i then 6 else e),(nd l i)⟩:fH))) (λ _=>⟨_,rfl,DL.nil _⟩);have hs:=(hs.p1).drop;⟨_,rfl,hs.fresh⟩))))
theorem C294(l:List bR)(rec:Int->Int->Int->Option fH)(lv:Value)(i d:Int)(r:fH)(w:World)(hL:dC (λ _=>True) w lv l)(hk:jb l)(HR:ai9 l rec)(h0:0<=i/\i<=l.length)(hd:0<=d/\d<=12)(hr:oV rec l i d=some r):CR 294 [lv,.int .i64 i,.int .i64 d] w (λ v w'=>∃sh:dS,v=Flat.val sh/\lL (fk (λ w=>Deep.dr w sh r)) w w'):=by
 have C5:=hk.n;have hn:l.length<=1000000:=by omega
 have rZ:=hk.at_;have hs:=St.start w;refine abq _ _ _ _ _ ?_;unfold S294;refine aM hs td (λ O9 _ hs=>have hs:=hs.enc (cs':=Flat.enc (⟨cH,0,0,0⟩:dS)) rfl;aI fG (hL.ext hs.aF) (cS (aC (λ dO=>?_) (λ dO=>?_))))
 ·refine dN QO (C320 _ l i 6 _ (hL.ext hs.aF) hk) ?_;rintro _ _ ⟨ajc,rfl,cO⟩;have hs:=hs.made cO;obtain⟨AL,Ps,_⟩:=(hs).fk;subst Ps;refine aJ (x:=(⟨AL,((gh l i 6)).to,((gh l i 6)).e,((gh l i 6)).at_⟩:dS)) hs.p1 fR rfl rfl (λ _ hs=>aE fR hs.At ?_);have hR:r=(⟨((gh l i 6)).l,((gh l i 6)).to,((gh l i 6)).e,((gh l i 6)).at_⟩:fH):=Pp hr (by omega);rw[hR];have hs:=hs.p1.dU (Ψ:=(λ w=>Deep.dr w (⟨AL,((gh l i 6)).to,((gh l i 6)).e,((gh l i 6)).at_⟩:dS) (⟨((gh l i 6)).l,((gh l i 6)).to,((gh l i 6)).e,((gh l i 6)).at_⟩:fH))) (λ _ h=>⟨_,rfl,lf (h)⟩)
  have hs:=(hs.p1).drop;exact⟨_,rfl,hs.fresh⟩
 obtain⟨t,ht⟩:=gx l (i:=i.toNat) (by omega);have hta:=rZ t (List.mem_of_getElem? ht);refine⟨λ jv w'=>jv=.bool (TZ l i)/\St w aY [bY O9 (Flat.enc (⟨cH,0,0,0⟩:dS))] w',aT vx hs (C209 _ l i (ByteArray.mk #[33]) _ (hL.ext hs.aF) hn) (λ _ _ hs=>aW (λ iF=>⟨vb (by unfold TZ;rw[iF];rfl),hs⟩) (λ iF=>aT vx hs (C209 _ l i (ByteArray.mk #[45]) _ (hL.ext hs.aF) hn) (λ _ _ hs=>⟨vb (by unfold TZ;rw[iF];rfl),hs⟩))),?_⟩;rintro _ _ ⟨rfl,hs⟩ _;refine aT vx hs (C209 _ l i (ByteArray.mk #[40]) _ (hL.ext hs.aF) hn) (λ _ he hs=>⟨λ jv w'=>jv=.bool ((TZ l i||tz l i (ByteArray.mk #[40]))&&decide (d=12))/\St w aY [bY O9 (Flat.enc (⟨cH,0,0,0⟩:dS))] w',aW (λ oo=>aH ⟨vb (by first|(rw[oo];simp;done)|(rw[oo,qS];simp;done)|(rw[oo];rfl)|(rw[oo,qS];rfl)),hs⟩) (λ oo=>aW (λ qS=>aH ⟨vb (by first|(rw[oo];simp;done)|(rw[oo,qS];simp;done)|(rw[oo];rfl)|(rw[oo,qS];rfl)),hs⟩) (λ qS=>⟨vb (by first|(rw[oo];simp;done)|(rw[oo,qS];simp;done)|(rw[oo];rfl)|(rw[oo,qS];rfl)),hs⟩)),?_⟩)
 rintro _ _ ⟨rfl,hs⟩ _;refine aW (λ ti=>?_) (λ ti=>aW (λ oo=>?_) (λ oo=>aW (λ qS=>?_) (λ qS=>?_)))
 ·refine dN QO (C320 _ l i 7 _ (hL.ext hs.aF) hk) ?_;rintro _ _ ⟨aw9,rfl,cO⟩;have hs:=hs.made cO;obtain⟨Sb,ajd,_⟩:=(hs).fk;subst ajd;refine aJ (x:=(⟨Sb,((gh l i 7)).to,((gh l i 7)).e,((gh l i 7)).at_⟩:dS)) hs.p1 fR rfl rfl (λ _ hs=>aE fR hs.At ?_);have hR:r=(⟨((gh l i 7)).l,((gh l i 7)).to,((gh l i 7)).e,((gh l i 7)).at_⟩:fH):=MC hr (by omega) ht ti;rw[hR];have hs:=hs.p1.dU (Ψ:=(λ w=>Deep.dr w (⟨Sb,((gh l i 7)).to,((gh l i 7)).e,((gh l i 7)).at_⟩:dS) (⟨((gh l i 7)).l,((gh l i 7)).to,((gh l i 7)).e,((gh l i 7)).at_⟩:fH))) (λ _ h=>⟨_,rfl,lf (h)⟩)
  have hs:=(hs.p1).drop;exact⟨_,rfl,hs.fresh⟩
 ·refine aK (by omega) (aK (by omega) ?_);have axa:¬ d=12:=λ h=>by rw[oo,decide_eq_true h]at ti;cases ti
  obtain⟨x1,hx1,hxl,hrx⟩:=T0 hr (by omega) ht ti oo;refine dN ae9 ((HR _ (i+1) (d+1) 5 x1 _ (hL.ext hs.aF) hx1 (by omega) (by omega) (by omega)).2 rfl) ?_;rintro _ _ ⟨axb,rfl,cO⟩;have hs:=hs.made cO;obtain⟨Dc,aje,_⟩:=(hs).fk;subst aje;refine aM hs td (λ Bp _ hs=>have hs:=hs.enc (cs':=Flat.enc (⟨cH,0,0,0⟩:dS)) rfl;aJ (x:=(⟨Dc,(x1).to,(x1).e,(x1).at_⟩:dS)) hs fR rfl rfl (λ w13 hs=>aA uj (aB (v:=.int .i64 (x1).e) jD hs.hb rfl (bV (aC (λ wA=>?_) (λ wA=>⟨λ jv w'=>jv=.int .i64 (if t.text=ByteArray.mk #[45]then 3 else 4)/\w13=w',aO fG (hL.ext hs.aF) (by omega) ht (λ _ Ai=>bW (t).text nu Ai rfl rfl (λ _ Yo=>aE gj (Yo) (iD (aC (λ GM=>⟨by rw[if_pos GM],rfl⟩) (λ GM=>⟨by rw[if_neg GM],rfl⟩))))),?_⟩))))))
  ·refine aE fR hs.At (aJ (x:=(⟨Dc,(x1).to,(x1).e,(x1).at_⟩:dS)) hs.p2 fR rfl rfl (λ _ hs=>aE fR hs.At ?_));have hR:r=(⟨(x1).l,(x1).to,(x1).e,(x1).at_⟩:fH):=hrx.trans (if_pos wA);rw[hR];have hs:=hs.p2.dU (Ψ:=(λ w=>Deep.dr w (⟨Dc,(x1).to,(x1).e,(x1).at_⟩:dS) (⟨(x1).l,(x1).to,(x1).e,(x1).at_⟩:fH))) (λ _ h=>⟨_,rfl,lf (h)⟩);have hs:=((hs.p1.drop).p1).drop;exact⟨_,rfl,hs.fresh⟩
  rintro _ _ ⟨rfl,hw⟩ _;subst hw;obtain⟨op,agr⟩:∃op,op=(if t.text=ByteArray.mk #[45]then(3:Int)else 4):=⟨_,rfl⟩;rw[<- agr];refine aO fG (hL.ext hs.aF) (by omega) ht (λ _ LI=>bW (t).at_ lu LI rfl rfl (λ _ Wy=>aE bL (Wy) (pop (DJ _ _) (aX ([(⟨op,0,(ByteArray.mk #[]),(t).at_⟩:bX)]) hs gN rfl rfl (dI rfl) (λ s_x66 _ hs=>aA rP (aB (v:=Flat.val (Dc:SV)) jo hs.p1.hb rfl ?_))))));have ajf:=(DL.flat (lf (hs.p2).fk));refine bI hs gN ajf (by simp;omega) (by decide) (λ agc _ hs=>aA rP ?_);obtain⟨Pt,rfl⟩:=(hs).fC;refine aS hs.p1 jo (dI rfl) (rfl) (λ _ hs=>have hs:=hs.enc (cs':=Flat.enc (⟨Pt,(x1).to,(x1).e,(x1).at_⟩:dS)) rfl;aE fR hs.At (aJ (x:=(⟨Pt,(x1).to,(x1).e,(x1).at_⟩:dS)) hs.p3 fR rfl rfl (λ _ hs=>aE fR hs.At ?_)))
  have hR:r=(⟨([(⟨op,0,(ByteArray.mk #[]),(t).at_⟩:bX)]++(x1).l),(x1).to,(x1).e,(x1).at_⟩:fH):=by rw[hrx,if_neg wA,<- agr]
  rw[hR];have hs:=hs.p2.freeze.dU (Ψ:=(λ w=>Deep.dr w (⟨Pt,(x1).to,(x1).e,(x1).at_⟩:dS) (⟨([(⟨op,0,(ByteArray.mk #[]),(t).at_⟩:bX)]++(x1).l),(x1).to,(x1).e,(x1).at_⟩:fH))) (λ _ h=>⟨_,rfl,DL.j3 h⟩);have hs:=(((hs.p1.drop.p1).drop).p1).drop;exact⟨_,rfl,hs.fresh⟩
 ·refine aK (by omega) (aK (by omega) ?_);have axa:¬ d=12:=λ h=>by rw[oo,qS,decide_eq_true h]at ti;cases ti
  obtain⟨x1,hx1,hrx⟩:=MD hr (by omega) ht ti oo qS;refine dN QL ((HR _ (i+1) (d+1) 0 x1 _ (hL.ext hs.aF) hx1 (by omega) (by omega) (by omega)).1) ?_;rintro _ _ ⟨axc,rfl,cO⟩;have hs:=hs.made cO;obtain⟨xK,ajg,_⟩:=(hs).fk;subst ajg;refine aM hs td (λ V6 _ hs=>have hs:=hs.enc (cs':=Flat.enc (⟨cH,0,0,0⟩:dS)) rfl;aJ (x:=(⟨xK,(x1).to,(x1).e,(x1).at_⟩:dS)) hs fR rfl rfl (λ _ hs=>aA uj (aB (v:=.int .i64 (x1).e) jD hs.hb rfl (bV (aC (λ Sc=>?_) (λ Sc=>aA oH (aB (v:=.int .i64 (x1).to) bL hs.hb rfl (aT vx hs (C209 _ l (x1).to (ByteArray.mk #[41]) _ (hL.ext hs.aF) hn) (λ _ he hs=>bQ (aW (λ Sd=>?_) (λ Sd=>?_)))))))))))
  ·refine aE fR hs.At (aJ (x:=(⟨xK,(x1).to,(x1).e,(x1).at_⟩:dS)) hs.p2 fR rfl rfl (λ _ hs=>aE fR hs.At ?_));have hR:r=(⟨(x1).l,(x1).to,(x1).e,(x1).at_⟩:fH):=hrx.trans (if_pos Sc);rw[hR];have hs:=hs.p2.dU (Ψ:=(λ w=>Deep.dr w (⟨xK,(x1).to,(x1).e,(x1).at_⟩:dS) (⟨(x1).l,(x1).to,(x1).e,(x1).at_⟩:fH))) (λ _ h=>⟨_,rfl,lf (h)⟩);have hs:=((hs.p1.drop).p1).drop;exact⟨_,rfl,hs.fresh⟩
  ·refine aA oH (aB (v:=.int .i64 (x1).to) bL hs.hb rfl (dN QO (C320 _ l (x1).to 5 _ (hL.ext hs.aF) hk) ?_));rintro _ _ ⟨axd,rfl,cO⟩;have hs:=hs.made cO;obtain⟨Se,ajh,_⟩:=(hs).fk;subst ajh;refine aJ (x:=(⟨Se,((gh l (x1).to 5)).to,((gh l (x1).to 5)).e,((gh l (x1).to 5)).at_⟩:dS)) hs.p3 fR rfl rfl (λ _ hs=>aE fR hs.At ?_);have hR:r=(⟨((gh l (x1).to 5)).l,((gh l (x1).to 5)).to,((gh l (x1).to 5)).e,((gh l (x1).to 5)).at_⟩:fH):=hrx.trans ((if_neg Sc).trans (if_neg (by simpa using Sd)));rw[hR];have hs:=hs.p1.dU (Ψ:=(λ w=>Deep.dr w (⟨Se,((gh l (x1).to 5)).to,((gh l (x1).to 5)).e,((gh l (x1).to 5)).at_⟩:dS) (⟨((gh l (x1).to 5)).l,((gh l (x1).to 5)).to,((gh l (x1).to 5)).e,((gh l (x1).to 5)).at_⟩:fH))) (λ _ h=>⟨_,rfl,lf (h)⟩)
   have hs:=(((hs.p1.drop.p1).drop).p1).drop;exact⟨_,rfl,hs.fresh⟩
  refine aA oH (aB (v:=.int .i64 (x1).to) bL hs.hb rfl ?_);have sR:=sB (l:=l) (i:=x1.to) (t:=ByteArray.mk #[41]) (by simpa using Sd);refine aK (by omega) (aA oH (aS hs bL (dI rfl) (rfl) (λ _ hs=>have hs:=hs.enc (cs':=Flat.enc (⟨xK,((x1).to+1),(x1).e,(x1).at_⟩:dS)) rfl;aE fR hs.At (aJ (x:=(⟨xK,((x1).to+1),(x1).e,(x1).at_⟩:dS)) hs.p2 fR rfl rfl (λ _ hs=>aE fR hs.At ?_)))));have hR:r=(⟨(x1).l,((x1).to+1),(x1).e,(x1).at_⟩:fH):=hrx.trans ((if_neg Sc).trans (if_pos (by simpa using Sd)));rw[hR];have hs:=hs.p2.dU (Ψ:=(λ w=>Deep.dr w (⟨xK,((x1).to+1),(x1).e,(x1).at_⟩:dS) (⟨(x1).l,((x1).to+1),(x1).e,(x1).at_⟩:fH))) (λ _ h=>⟨_,rfl,lf (h)⟩)
  have hs:=((hs.p1.drop).p1).drop;exact⟨_,rfl,hs.fresh⟩
 have Xe:=ME hr (by omega) ht ti oo qS;refine aO fG (hL.ext hs.aF) (by omega) ht (λ _ aji=>bW (t).kind lr aji rfl rfl (λ _ ajj=>aE bL (ajj) (aH (aC (λ Je=>?_) (λ Je=>⟨λ jv w'=>jv=.bool (decide (t.kind=1)&&gB t.text)/\St w aY [bY O9 (Flat.enc (⟨cH,0,0,0⟩:dS))] w',aO fG (hL.ext hs.aF) (by omega) ht (λ _ ajk=>bW (t).kind lr ajk rfl rfl (λ _ ajl=>aE bL (ajl) (aH (aC (λ yY=>aO fG (hL.ext hs.aF) (by omega) ht (λ _ ajm=>bW (t).text nu ajm rfl rfl (λ _ ajn=>aE gj (ajn) (aT ub hs (C211 _ _ (by omega)) (λ _ _ hs=>⟨vb (by rw[decide_eq_true yY];rfl),hs⟩))))) (λ yY=>⟨vb (by rw[decide_eq_false yY];rfl),hs⟩))))),?_⟩)))))
 ·refine aO fG (hL.ext hs.aF) (by omega) ht (λ _ ajo=>bW (t).n rO ajo rfl rfl (λ _ ajp=>have hs:=hs.drew;aE bL (ajp) (aO fG (hL.ext hs.aF) (by omega) ht (λ _ ajq=>bW (t).at_ lu ajq rfl rfl (λ _ OE=>aE bL (OE) (pop (Il _ _ _) (aK (by omega) (aX ([(⟨1,(t).n,(ByteArray.mk #[]),(t).at_⟩:bX)]) hs gN rfl rfl (dI rfl) (λ axe _ hs=>?_)))))))));obtain⟨Sf,rfl⟩:=(hs).fC;refine pop (yJ _ _ _ _) (aJ (x:=(⟨Sf,(i+1),0,0⟩:dS)) hs.p1 fR rfl rfl (λ _ hs=>aE fR hs.At ?_));have hR:r=(⟨[(⟨1,(t).n,(ByteArray.mk #[]),(t).at_⟩:bX)],(i+1),0,0⟩:fH):=Xe.trans (if_pos Je)
  rw[hR];have hs:=hs.p1.freeze.dU (Ψ:=(λ w=>Deep.dr w (⟨Sf,(i+1),0,0⟩:dS) (⟨[(⟨1,(t).n,(ByteArray.mk #[]),(t).at_⟩:bX)],(i+1),0,0⟩:fH))) (λ _ h=>⟨_,rfl,DL.j3 h⟩);have hs:=(hs.p1).drop;exact⟨_,rfl,hs.fresh⟩
 rintro _ _ ⟨rfl,hs⟩ _;refine aW (λ Pu=>?_) (λ Pu=>?_)
 ·refine aO fG (hL.ext hs.aF) (by omega) ht (λ _ ajr=>bW (t).text nu ajr rfl rfl (λ _ ajs=>have hs:=hs.drew;aE gj (ajs) (aO fG (hL.ext hs.aF) (by omega) ht (λ _ ajt=>bW (t).at_ lu ajt rfl rfl (λ _ OF=>aE bL (OF) (pop (Im _ _ _) (aK (by omega) (aX ([(⟨2,0,(t).text,(t).at_⟩:bX)]) hs gN rfl rfl (dI rfl) (λ axf _ hs=>?_)))))))));obtain⟨Sg,rfl⟩:=(hs).fC;refine pop (yJ _ _ _ _) (aJ (x:=(⟨Sg,(i+1),0,0⟩:dS)) hs.p1 fR rfl rfl (λ _ hs=>aE fR hs.At ?_));have hR:r=(⟨[(⟨2,0,(t).text,(t).at_⟩:bX)],(i+1),0,0⟩:fH):=Xe.trans ((if_neg Je).trans (if_pos Pu))
  rw[hR];have hs:=hs.p1.freeze.dU (Ψ:=(λ w=>Deep.dr w (⟨Sg,(i+1),0,0⟩:dS) (⟨[(⟨2,0,(t).text,(t).at_⟩:bX)],(i+1),0,0⟩:fH))) (λ _ h=>⟨_,rfl,DL.j3 h⟩);have hs:=(hs.p1).drop;exact⟨_,rfl,hs.fresh⟩
 refine dN QO (C320 _ l i 5 _ (hL.ext hs.aF) hk) ?_;rintro _ _ ⟨asB,rfl,cO⟩;have hs:=hs.made cO;obtain⟨MG,adF,_⟩:=(hs).fk;subst adF;refine aJ (x:=(⟨MG,((gh l i 5)).to,((gh l i 5)).e,((gh l i 5)).at_⟩:dS)) hs.p1 fR rfl rfl (λ _ hs=>aE fR hs.At ?_);have hR:r=(⟨((gh l i 5)).l,((gh l i 5)).to,((gh l i 5)).e,((gh l i 5)).at_⟩:fH):=Xe.trans ((if_neg Je).trans (if_neg (by simpa using Pu)));rw[hR];have hs:=hs.p1.dU (Ψ:=(λ w=>Deep.dr w (⟨MG,((gh l i 5)).to,((gh l i 5)).e,((gh l i 5)).at_⟩:dS) (⟨((gh l i 5)).l,((gh l i 5)).to,((gh l i 5)).e,((gh l i 5)).at_⟩:fH))) (λ _ h=>⟨_,rfl,lf (h)⟩)
 have hs:=(hs.p1).drop;exact⟨_,rfl,hs.fresh⟩
end Go.Proofs.YtpdlpabnlkofmaaGreatDoor

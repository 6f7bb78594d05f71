/-
  What the proof needs, part 6.
-/
import Derived.Test.YtnjcingfdhjfkaaGreatVcM5
set_option linter.all false
namespace Go.Proofs.YtnjcingfdhjfkaaGreat
open Go.Fw
theorem Ob (m:gL) (i:Nat) (t:fM):(ti m i t).length≤1+t.buf.length:=by
 have:=Ha t.buf
 unfold ti; split <;> simp <;> omega
theorem wF {m:gL} (h:rE m):∀ k,(kT m k).length≤k * 1001
 | 0=>by simp [kT]
 | k+1=>by
  have ih:=wF h k
  cases ht:m.l[k]? with
  | none=>
   have e:kT m (k+1)=kT m k:=by unfold kT; rw [List.range_succ,List.flatMap_append]; simp [ht]
   rw [e]; exact Nat.le_trans ih (Nat.mul_le_mul_right 1001 (Nat.le_succ k))
  | some t=>
   rw [Aq ht,List.length_append]
   have:=Ob m k t
   have:=(h.th t (List.mem_of_getElem? ht)).bl
   omega
def uo (m:gL) (i:Int):List Int:=if 0≤i then (match m.l[i.toNat]? with | some t=>t.aK | none=>[]) else []
theorem W0 {m:gL} {i:Int} {t:fM} (h0:0≤i) (h:m.l[i.toNat]? = some t):uo m i=t.aK:=by unfold uo; rw [if_pos h0,h]
theorem Sq {m:gL} {i:Int} (h:i<0∨m.l.length≤i):uo m i=[]:=by
 unfold uo; split
 ·rw [List.getElem?_eq_none (by omega)]
 ·rfl
def adm:List Int→Int→Int
 | [],n=>n
 | c::cs,n=>adm cs (qX (qX (n * 10000)+c))
def As (l:List Int) (k:Nat):Int:=adm (l.take k) 0
theorem Hb:∀ (l:List Int) (c n:Int),adm (l++[c]) n=qX (qX (adm l n * 10000)+c)
 | [],_,_=>rfl
 | x::l,c,n=>Hb l c _
theorem Oc {l:List Int} {k:Nat} {c:Int} (h:l[k]? = some c):As l (k+1)=qX (qX (As l k * 10000)+c):=by
 unfold As; rw [List.take_add_one,h]; exact Hb _ _ _
def jM (p q:ep):Bool:=decide (q.kind=p.kind) && decide (q.t=p.t) && decide (q.i=p.i) && decide (p.cut.length=0)
def pk3 (s:SV):dJ:=⟨3,0,0,s⟩
theorem adn {w:World} {ss:List SV} {cs:List (List Int)} (h:jc ss cs w):jc (ss.map pk3) (cs.map λ c=>(⟨3,0,0,c⟩:ep)) w:=by
 refine ⟨by simp [h.1],λ i t x a b=>?_⟩
 rw [List.getElem?_map] at a b
 cases hs:ss[i]? with
 | none=>rw [hs] at a; cases a
 | some s=>
  cases hc:cs[i]? with
  | none=>rw [hc] at b; cases b
  | some c=>
   rw [hs] at a; rw [hc] at b
   simp at a b; subst a b
   exact ⟨s,rfl,h.2 i s c hs hc⟩
theorem C16 (K:World→Prop) (p:Nat) (m:gL) (w:World) (hm:Has (eO K p m) w) (hw:K w) (vD:∀ w',Ext w w'→K w') (mu:rE m):CR 16 [(.pointer (some ⟨p,0,none⟩))] w (λ v w'=>lW (fk v (dU m)) w w'):=by
 obtain ⟨a,hr⟩:=eO.rd hm hw;have cm8:=hr.b.cell (o:=8) rfl;have cm0:=hr.b.cell (o:=0) rfl;have Yr:=hr.b.cell (o:=1) rfl;have cm3:=hr.b.cell (o:=3) rfl;have cm9:=hr.b.cell (o:=9) rfl;have Co:=hr.b.cell (o:=10) rfl;have E3:=hr.b.cell (o:=11) rfl;have By:=hr.b.cell (o:=12) rfl;have FX:=hr.b.cell (o:=13) rfl;have Ar:=hr.b.cell (o:=14) rfl;have FY:=hr.b.cell (o:=15) rfl;have hs:=St.start w;refine agM _ _ _ ?_;unfold S16;refine aE (aA nR (cG bL (Ar.ext hs.aF) (cS (aC (λ jV=>?_) (λ jV=>?_)))))
 ·have hpm:dU m=[]:=by unfold dU; rw [if_pos jV]
  rw [hpm];exact hs.xD.fresh
 ·refine aE (aA j9 (cG qR (By.ext hs.aF) (aJ rZ (hr.ll.ext hs.aF) ?_)));have hs:=hs.xD (α:=ep);refine ⟨λ mm o x w1=>∃ k:Nat,x = .int .i64 (k:Int)∧mm=a.ps.length - k∧k≤a.ps.length∧St w bD [fk o (kT m k)] w1,⟨_,0,rfl,rfl,Nat.zero_le _,hs⟩,?_⟩;rintro mm fV _ w1 ⟨k,rfl,rfl,hk,hs⟩ fB;refine aR (aC (λ fw=>?_) (λ fw=>?_))
  ·obtain ⟨aga,Bz⟩:=gx (a.ps) (i:=((k:Int)).toNat) (by omega);refine aQ rZ hr.ll (by omega) Bz (λ _ Ad=>?_);obtain ⟨t,ht⟩:∃ t,m.l[k]? = some t:=⟨_,List.getElem?_eq_getElem (by have:=hr.len; omega)⟩;have Cn:=List.mem_of_getElem? ht;have yU:=(mu.th t Cn).bl;have vi:=wF mu k;have Qi:=Ha t.buf;have KE:=hr.len;have MW:=mu.tl;refine aD BN (Ad.ext hs.aF) ?_;refine ⟨λ o w'=>St w bD [fk o (kT m k++(if Cm m t=true then [(⟨1,(k:Int),0,[]⟩:ep)] else []))] w',?_,?_⟩
   ·refine aZ auA hs (C56 K p m aga.b t _ (hm.ext hs.aF) (vD _ hs.aF) (λ w2 e=>vD _ (Ext.trans hs.aF e)) mu ((hr.th k _ _ Bz ht).ext hs.aF) Cn) (λ w2 he hs=>aX (λ fP=>?_) (λ fP=>?_))
    ·refine pop (Gt _ _) (have hs:=hs.gE (Φ:=(λ w=>cA.dr w (⟨1,(k:Int),0,⟨none,0,0⟩⟩:dJ) (⟨1,(k:Int),0,[]⟩:ep))) (λ w=>⟨_,rfl,DL.nil _⟩);eK (s:=(⟨1,(k:Int),0,⟨none,0,0⟩⟩:dJ)) (x:=(⟨1,(k:Int),0,[]⟩:ep)) hs nP (by decide) (λ afe w3 hs=>have hs:=hs.p1;ed hs nP (by simp; omega) (by decide) (λ s_x30 w4 hs=>?_)));rw [fP,if_pos rfl];exact hs
    ·rw [fP,if_neg (by decide),List.append_nil];exact hs
   ·intro nh w5 hs jw;obtain ⟨bp,gl,rg,cn,_,pY,hB,BV,hcn⟩:=eH.rd (hr.th k _ _ Bz ht);have ct0:=pY.cell (o:=0) rfl;have ct5:=pY.cell (o:=5) rfl;have ct6:=pY.cell (o:=6) rfl;refine aE (aA nS (cG rX (ct0.ext hs.aF) (dB auB hs (C57 bp _ _ _ (hB.ext hs.aF) (by omega)) (λ x35 w6 bY hs=>?_))));have hxx:=trivial;refine aJ ei (hs).fI ?_;have hs:=hs.p1.p1;refine ⟨λ mm o x w1=>∃ j:Nat,x = .int .i64 (j:Int)∧mm=(Af t.buf).length - j∧j≤(Af t.buf).length∧St w bD [bK x35 (Af t.buf),fk o ((kT m k++(if Cm m t=true then [(⟨1,(k:Int),0,[]⟩:ep)] else []))++((Af t.buf).take j).map λ i=>(⟨2,(k:Int),i,[]⟩:ep))] w1,⟨_,0,rfl,rfl,Nat.zero_le _,by simpa using hs⟩,?_⟩
    rintro mm MO _ w7 ⟨j,rfl,rfl,hj,hs⟩ oN;refine aR (aC (λ m7=>?_) (λ m7=>?_))
    ·obtain ⟨qp,pW⟩:=gx ((Af t.buf)) (i:=((j:Int)).toNat) (by omega);refine dT hs ei (by omega) (by omega) (λ _ tZ=>gj hs bL tZ pW (pop (Kh _ _ _) (have hs:=hs.gE (Φ:=(λ w=>cA.dr w (⟨2,(k:Int),qp,⟨none,0,0⟩⟩:dJ) (⟨2,(k:Int),qp,[]⟩:ep))) (λ w=>⟨_,rfl,DL.nil _⟩);eK (s:=(⟨2,(k:Int),qp,⟨none,0,0⟩⟩:dJ)) (x:=(⟨2,(k:Int),qp,[]⟩:ep)) hs nP (by decide) (λ Wf w8 hs=>have hs:=hs.p2;ed hs nP (by simp only [List.length_append,List.length_map,List.length_take,List.length_singleton]; split <;> simp <;> omega) (by decide) (λ aqf w9 hs=>aO (by omega) ?_)))))
     have hs:=hs.p1;refine ⟨_,by omega,j+1,rfl,rfl,by omega,?_⟩;rw [List.append_assoc,iO (k:=j) pW] at hs;exact hs
    ·refine aO (by omega) ?_;have hs:=(hs).drop;refine ⟨_,by omega,k+1,rfl,rfl,by omega,?_⟩;rw [Aq ht];unfold ti;rw [List.take_of_length_le (by omega),List.append_assoc] at hs;exact hs
  ·have hpm:dU m=kT m a.ps.length:=by unfold dU; rw [if_neg jV,hr.len]
   rw [hpm,show a.ps.length=k from by omega];exact hs.fresh
theorem C31 (K:World→Prop) (p:Nat) (m:gL) (w:World) (hm:Has (eO K p m) w) (hw:K w) (vD:∀ w',Ext w w'→K w') (mu:rE m) (hb:MB m.mem 1000000) (hC:(fK (IS m.mem)).length≤1000000000):CR 31 [(.pointer (some ⟨p,0,none⟩))] w (λ v w'=>lW (fk v (rD m)) w w'):=by
 obtain ⟨a,hr⟩:=eO.rd hm hw;have cm8:=hr.b.cell (o:=8) rfl;have cm0:=hr.b.cell (o:=0) rfl;have Yr:=hr.b.cell (o:=1) rfl;have cm3:=hr.b.cell (o:=3) rfl;have cm9:=hr.b.cell (o:=9) rfl;have Co:=hr.b.cell (o:=10) rfl;have E3:=hr.b.cell (o:=11) rfl;have By:=hr.b.cell (o:=12) rfl;have FX:=hr.b.cell (o:=13) rfl;have Ar:=hr.b.cell (o:=14) rfl;have FY:=hr.b.cell (o:=15) rfl;have hs:=St.start w;refine agY _ _ _ ?_;unfold S31;refine aE (aA nR (cG bL (Ar.ext hs.aF) (cS (aC (λ fO=>?_) (λ fO=>?_)))))
 ·have hpm:rD m=[]:=by unfold rD; rw [if_pos fO]
  rw [hpm];exact hs.xD.fresh
 ·refine aE (aA jD (cG rY (Co.ext hs.aF) (eu auN (C82 a.q m.mem _ (hr.mem.ext hs.aF) mu.mem hb hC) ?_)));rintro x15 w1 bY;have hs:=hs.made bY;obtain ⟨ss,hs⟩:=hs.DJ;have hsl:=hs.ah2;have hdl:=QF (um m.mem) (fK (IS m.mem));have Mw:(G4 m.mem).length=(Mv (um m.mem) (fK (IS m.mem))).1.length:=rfl;refine aJ xS (hs).fI ?_;have hs:=(((hs.fX (α:=dJ)).p2).p2).p2;refine ⟨λ mm o x w1=>∃ k:Nat,x = .int .i64 (k:Int)∧mm=ss.length - k∧k≤ss.length∧St w bD [bK o ((ss.take k).map pk3),bK x15 ss,eS (jc ss (G4 m.mem))] w1,⟨_,0,rfl,rfl,Nat.zero_le _,hs⟩,?_⟩;rintro mm fV _ w2 ⟨k,rfl,rfl,hk,hs⟩ fB
  refine aR (aC (λ gd=>?_) (λ gd=>?_))
  ·obtain ⟨iX,fG⟩:=gx (ss) (i:=((k:Int)).toNat) (by omega);refine dT hs.p1 xS (by omega) (by omega) (λ _ jI=>gj hs.p1 et jI fG (pop (v:=Flat.val (pk3 iX)) (Gu _ _ _ _) (bW ([pk3 iX]) hs nP rfl rfl (eJ rfl) (λ s_x24 w3 hs=>?_))));have wx:=(hs).fI;refine cN hs.p1 nP wx (by simp; omega) (by decide) (λ apA w4 hs=>have hs:=hs.p1.drop;aO (by omega) ?_);have hs:=hs.p2.p2.p2;exact ⟨_,by omega,k+1,rfl,rfl,by omega,by rw [← iO (k:=k) fG]; exact hs⟩
  ·have hs:=(hs.p1.drop).p1;have hpm:rD m=(G4 m.mem).map λ c=>(⟨3,0,0,c⟩:ep):=by unfold rD; rw [if_neg fO]
   rw [List.take_of_length_le (by omega)] at hs;rw [hpm];exact (St.DK (hs.dO (λ w h=>adn h)).p1).fresh
theorem C59 (cv:Value) (cut:List Int) (w:World) (hC:eF (λ _=>True) w cv cut) (ajU:cut.length≤1000000):CR 59 [cv] w (λ v w'=>v = .int .i64 (As cut cut.length)∧Ext w w'):=by
 have hs:=St.start w;refine ahm _ _ _ ?_;unfold S59;refine aJ ei (hC.ext hs.aF) ?_;refine ⟨λ mm n x w1=>∃ k:Nat,n = .int .i64 (As cut k)∧x = .int .i64 (k:Int)∧mm=cut.length - k∧k≤cut.length∧St w bD [] w1,⟨_,0,rfl,rfl,rfl,Nat.zero_le _,hs⟩,?_⟩;rintro mm _ _ w1 ⟨k,rfl,rfl,rfl,hk,hs⟩ fB;refine aR (aC (λ gu=>?_) (λ gu=>?_))
 ·obtain ⟨e_x10,W1⟩:=gx (cut) (i:=((k:Int)).toNat) (by omega);refine aQ ei hC (by omega) W1 (λ _ qo=>aD bL (qo.ext hs.aF) (Kp (Ko (aO (by omega) ?_))));exact ⟨_,by omega,k+1,by rw [Oc (k:=k) W1],rfl,rfl,by omega,hs⟩
 ·exact ⟨by rw [show cut.length=k from by omega],hs.aF⟩
theorem C60 (q x:ep) (qv:dJ) (b:Nat) (xv:dJ) (w:World) (hq:cA.dr w qv q) (hx:At (λ _=>True) w (.pointer (some ⟨b,0,none⟩)) xv) (hxd:cA.dr w xv x):CR 60 [Flat.val qv,(.pointer (some ⟨b,0,none⟩))] w (λ v w'=>v = .bool (jM x q)∧Ext w w'):=by
 obtain ⟨QG,rfl,ado⟩:=hq;obtain ⟨adp,rfl,adq⟩:=hxd;have hs:=St.start w;refine ahn _ _ _ _ ?_;unfold S60;refine dE hs (λ ayf w1 hs=>?_);refine ⟨λ jv w'=>jv = .bool (jM x q)∧St w bD [cD ayf (Flat.enc (⟨(q).kind,(q).t,(q).i,QG⟩:dJ))] w',?_,?_⟩
 ·refine aA pa (aB (v:=.int .i64 ((q).kind)) bL hs.hb rfl (bT (x).kind pa hx rfl rfl (λ _ ayg=>aD bL (ayg.ext hs.aF) (aH (aC (λ gn=>?_) (λ gn=>?_))))))
  ·refine aA jC (aB (v:=.int .i64 ((q).t)) bL hs.hb rfl (bT (x).t jC hx rfl rfl (λ _ aqX=>aD bL (aqX.ext hs.aF) (aH (aC (λ gQ=>?_) (λ gQ=>?_))))))
   ·refine aA wW (aB (v:=.int .i64 ((q).i)) bL hs.hb rfl (bT (x).i wW hx rfl rfl (λ _ jI=>aD bL (jI.ext hs.aF) (aH (aC (λ gr=>?_) (λ gr=>?_))))))
    ·refine bT adp rW hx rfl rfl (λ _ v9=>aD et (v9.ext hs.aF) ?_);have aqY:=DL.flat (adq);refine aJ ei (aqY.ext hs.aF) (aH ?_);exact ⟨vb (by unfold jM; first | (simp_all; done) | grind),hs⟩
    ·exact ⟨vb (by unfold jM; first | (simp_all; done) | grind),hs⟩
   ·exact ⟨vb (by unfold jM; first | (simp_all; done) | grind),hs⟩
  ·exact ⟨vb (by unfold jM; first | (simp_all; done) | grind),hs⟩
 ·rintro _ w2 ⟨rfl,hs⟩ fB;exact ⟨rfl,hs.drop.aF⟩
theorem C126 (sv fv:Value) (xs:List ep) (φ:ep→Prop) (g:ep→Bool) (w:World) (hL:DL w sv xs) (hf:n7 PG w fv φ g) (hφ:∀ x∈xs,φ x) (hn:xs.length≤1073741824):CR 126 [sv,fv] w (λ v w'=>v = .int .i64 (uQ g xs)∧Ext w w'):=by
 obtain ⟨g0,first,cap,rfl,vi,lQ⟩:=hf;have hs:=St.start w;refine Zj _ _ _ _ ?_;unfold S126;obtain ⟨aqZ,agb,agc⟩:=(hL).open;have hn127:=agc.1;refine aJ nP (agb.ext hs.aF) ?_;refine ⟨λ m x w1=>∃ k:Nat,x = .int .i64 (k:Int)∧m=xs.length - k∧k≤xs.length∧(∀ y∈xs.take k,g y=false)∧St w bD [] w1,⟨_,0,rfl,rfl,Nat.zero_le _,by simp,hs⟩,?_⟩;rintro m _ w1 ⟨k,rfl,rfl,hk,fR,hs⟩ fB;refine aR (aC (λ gu=>?_) (λ gu=>?_))
 ·obtain ⟨jk,dD⟩:=gx aqZ (i:=((k:Int)).toNat) (by omega);obtain ⟨BY,jR⟩:=gx (xs) (i:=((k:Int)).toNat) (by omega);obtain ⟨Sr,rfl,Ss⟩:=agc.2 _ _ _ dD jR;refine aQ nP agb (by omega) dD (λ _ iM=>aD mq (iM.ext hs.aF) (ga vi (lQ _ BY w1 hs.aF ⟨Sr,rfl,(Ss.ext hs.aF)⟩ (hφ _ (List.mem_of_getElem? jR))) ?_));rintro _ w2 ⟨rfl,he⟩;have hs:=hs.ext he;refine aX (λ eB=>?_) (λ eB=>?_)
  ·exact ⟨congrArg (Value.int .i64) (pd fR jR eB).symm,hs.aF⟩
  ·refine aO (by omega) ?_;exact ⟨_,by omega,k+1,rfl,rfl,by omega,eD fR jR eB,hs⟩
 ·exact ⟨congrArg (Value.int .i64) (kn (by rw [List.take_of_length_le (by omega)] at fR; exact fR)).symm,hs.aF⟩
theorem C61 (sv fv:Value) (xs:List ep) (φ:ep→Prop) (g:ep→Bool) (w:World) (hL:DL w sv xs) (hf:n7 PG w fv φ g) (hφ:∀ x∈xs,φ x) (hn:xs.length≤1073741824):CR 61 [sv,fv] w (λ v w'=>v = .bool (xs.any g)∧Ext w w'):=by
 have hs:=St.start w;refine aho _ _ _ _ ?_;unfold S61;refine aZ amS hs (C126 _ _ _ _ _ _ (hL.ext hs.aF) (hf.ext hs.aF) hφ (by omega)) (λ w1 he hs=>dG ?_);exact ⟨vb (n8 _ _),hs.aF⟩
theorem C22 (K:World→Prop) (p:Nat) (m:gL) (w:World) (hm:Has (eO K p m) w) (hw:K w) (vD:∀ w',Ext w w'→K w') (mu:rE m):CR 22 [(.pointer (some ⟨p,0,none⟩))] w (λ v w'=>lW (bK v m.mem.l) w w'):=by
 obtain ⟨a,hr⟩:=eO.rd hm hw;have cm8:=hr.b.cell (o:=8) rfl;have cm0:=hr.b.cell (o:=0) rfl;have Yr:=hr.b.cell (o:=1) rfl;have cm3:=hr.b.cell (o:=3) rfl;have cm9:=hr.b.cell (o:=9) rfl;have Co:=hr.b.cell (o:=10) rfl;have E3:=hr.b.cell (o:=11) rfl;have By:=hr.b.cell (o:=12) rfl;have FX:=hr.b.cell (o:=13) rfl;have Ar:=hr.b.cell (o:=14) rfl;have FY:=hr.b.cell (o:=15) rfl;have hs:=St.start w;refine agS _ _ _ ?_;unfold S22;refine aE (aA jD (cG rY (Co.ext hs.aF) (dB ahE hs (C72 a.q m.mem _ (hr.mem.ext hs.aF) mu.mem) (λ x7 w1 bY hs=>?_))));exact hs.fresh
theorem C23 (K:World→Prop) (p:Nat) (m:gL) (w:World) (hm:Has (eO K p m) w) (hw:K w) (vD:∀ w',Ext w w'→K w') (mu:rE m):CR 23 [(.pointer (some ⟨p,0,none⟩))] w (λ v w'=>lW (bK v m.mem.kept) w w'):=by
 obtain ⟨a,hr⟩:=eO.rd hm hw;have cm8:=hr.b.cell (o:=8) rfl;have cm0:=hr.b.cell (o:=0) rfl;have Yr:=hr.b.cell (o:=1) rfl;have cm3:=hr.b.cell (o:=3) rfl;have cm9:=hr.b.cell (o:=9) rfl;have Co:=hr.b.cell (o:=10) rfl;have E3:=hr.b.cell (o:=11) rfl;have By:=hr.b.cell (o:=12) rfl;have FX:=hr.b.cell (o:=13) rfl;have Ar:=hr.b.cell (o:=14) rfl;have FY:=hr.b.cell (o:=15) rfl;have hs:=St.start w;refine agT _ _ _ ?_;unfold S23;refine aE (aA jD (cG rY (Co.ext hs.aF) (dB TU hs (C73 a.q m.mem _ (hr.mem.ext hs.aF) mu.mem) (λ x7 w1 bY hs=>?_))));exact hs.fresh
theorem C25 (K:World→Prop) (p:Nat) (m:gL) (i:Int) (w:World) (hm:Has (eO K p m) w) (hw:K w) (vD:∀ w',Ext w w'→K w') (mu:rE m) (Ys:∀ t∈m.l,t.aK.length≤1000000):CR 25 [(.pointer (some ⟨p,0,none⟩)),.int .i64 i] w (λ v w'=>lW (bK v (uo m i)) w w'):=by
 obtain ⟨a,hr⟩:=eO.rd hm hw;have cm8:=hr.b.cell (o:=8) rfl;have cm0:=hr.b.cell (o:=0) rfl;have Yr:=hr.b.cell (o:=1) rfl;have cm3:=hr.b.cell (o:=3) rfl;have cm9:=hr.b.cell (o:=9) rfl;have Co:=hr.b.cell (o:=10) rfl;have E3:=hr.b.cell (o:=11) rfl;have By:=hr.b.cell (o:=12) rfl;have FX:=hr.b.cell (o:=13) rfl;have Ar:=hr.b.cell (o:=14) rfl;have FY:=hr.b.cell (o:=15) rfl;have hs:=St.start w;refine agV _ _ _ _ ?_;unfold S25;refine ⟨λ jv w'=>jv = .bool (decide (i<0∨a.ps.length≤i))∧w=w',?_,?_⟩
 ·refine aR (aC (λ pC=>?_) (λ pC=>?_))
  ·exact ⟨Rx (by omega),rfl⟩
  ·refine aE (aA j9 (cG qR (By.ext hs.aF) (aJ rZ (hr.ll.ext hs.aF) (dG ?_))));exact ⟨xw (by omega),rfl⟩
 ·rintro _ w1 ⟨rfl,hw⟩ fB;subst hw;refine aC (λ jG=>?_) (λ jG=>?_)
  ·rw [Sq (by have:=hr.len; omega)];exact (hs.fX (α:=Int)).fresh
  ·refine aE (aA j9 (cG qR (By.ext hs.aF) ?_));obtain ⟨aga,Bz⟩:=gx (a.ps) (i:=(i).toNat) (by omega);refine aQ rZ hr.ll (by omega) Bz (λ _ Ad=>aD BN (Ad.ext hs.aF) ?_);obtain ⟨t,ht⟩:∃ t,m.l[i.toNat]? = some t:=⟨_,List.getElem?_eq_getElem (by have:=hr.len; omega)⟩;have yU:=(mu.th t (List.mem_of_getElem? ht)).bl;have ayh:=(mu.th t (List.mem_of_getElem? ht)).rg;obtain ⟨bp,gl,rg,cn,_,pY,hB,BV,hcn⟩:=eH.rd (hr.th i.toNat _ _ Bz ht);have ct0:=pY.cell (o:=0) rfl;have ct5:=pY.cell (o:=5) rfl;have ct6:=pY.cell (o:=6) rfl;refine aE (aA pw (cG et (ct5.ext hs.aF) (dB zi hs (C70 _ _ _ (BV.ext hs.aF) (Ys t (List.mem_of_getElem? ht))) (λ x26 w2 bY hs=>?_))))
   rw [W0 (by omega) ht];exact hs.fresh
def pL (m:Mem) (c:Int):Int:=if N4 m c=true then m.l.getD c.toNat 0 else 0
def Hc (m:gL) (t:fM) (x:aW):Int:=if (rz t.buf x.b).isSome=true then (rz t.buf x.b).getD 0 else pL m.mem x.b
def loadT (m:gL) (t:fM) (x:aW):fM:={t with aK:=t.aK.set x.a.toNat (Hc m t x)}
def LI (m:gL) (t:fM) (x:aW):cY:=⟨if (rz t.buf x.b).isSome=true then 2 else 1,0,x.b,Hc m t x,0⟩
def uq (m:gL) (t:fM) (x:aW):bJ:=if x.kind=3 then ⟨3,m.u.lines.getD x.b.toNat 0,x.b,t.e⟩ else ⟨x.kind,x.b,0,0⟩
def vu (m:gL) (t:fM) (x:aW):fM:={t with buf:=wB m.room t.buf (uq m t x)}
def yL (k:Int):Int:=if k=3 then 3 else if k=5 then 4 else if k=6 then 5 else if k=7 then 6 else 0
def B4 (m:gL) (t:fM) (x:aW):cY:=⟨yL x.kind,0,x.b,(uq m t x).n,0⟩
def casT (m:gL) (t:fM) (x:aW):fM:={t with aK:=t.aK.set x.a.toNat (pL m.mem x.b)}
def BA (m:gL) (t:fM) (x:aW):gL:=if pL m.mem x.b=t.e then {m with mem:=iH m.mem x.b t.f} else m
def Od (m:gL) (t:fM) (x:aW):cY:=if pL m.mem x.b=t.e then ⟨8,0,x.b,pL m.mem x.b,t.f⟩ else ⟨9,0,x.b,pL m.mem x.b,0⟩
def ye (m:gL) (i:Int) (x:aW):gL:={m with locks:=m.locks.set x.b.toNat i}
def ur (m:gL) (i:Int) (x:aW):gL:=if m.locks.getD x.b.toNat 0=i then {m with locks:=m.locks.set x.b.toNat (-1)} else {m with fault:=3,mK:=i}
def E4 (m:gL) (i:Int) (x:aW):cY:=if m.locks.getD x.b.toNat 0=i then ⟨11,0,x.b,0,0⟩ else ⟨16,0,3,0,0⟩
def dY (m:gL) (t:fM) (i:Int) (x:aW):gL × fM × cY:=
 if x.kind=2 then (m,loadT m t x,LI m t x)
 else if x.kind=4 then (BA m t x,casT m t x,Od m t x)
 else if x.kind=8 then (m,t,⟨7,0,0,0,0⟩)
 else if x.kind=9 then (ye m i x,t,⟨10,0,x.b,0,0⟩)
 else if x.kind=10 then (ur m i x,t,E4 m i x)
 else (m,vu m t x,B4 m t x)
theorem agd (p:Nat) (m:Mem) (c:Int) (w:World) (hm:vd w p m) (hk:xk m):CR 195 [.pointer (some ⟨p,0,none⟩),.int .i64 c] w (λ v w'=>v = .tuple #[.int .i64 (pL m c),.int .i64 (if N4 m c=true then 0 else 1)]∧Ext w w'):=C195 p m c w hm hk
theorem BB (m:Mem) (c n:Int):(iH m c n).of=m.of:=by unfold iH; split <;> rfl
theorem tj (m:Mem) (c n:Int):(iH m c n).dC=m.dC:=by unfold iH; split <;> rfl
theorem QH (m:Mem) (c:Int):(vC m c).of=m.of:=by unfold vC; split <;> rfl
theorem B5 (m:Mem) (c:Int):(vC m c).dC=m.dC:=by unfold vC; split <;> rfl
theorem ui.write {ov fv:Value} {m:Mem} {w:World} {c n:Int} (h:ui ov fv m w):ui ov fv (iH m c n) w:=by unfold ui; rw [BB,tj]; exact h
theorem ui.out {ov fv:Value} {m:Mem} {w:World} {c:Int} (h:ui ov fv m w):ui ov fv (vC m c) w:=by unfold ui; rw [QH,B5]; exact h
theorem C130 (K:World→Prop) (p:Nat) (m:gL) (n:Nat) (tp:Ptr) (t:fM) (i:Int) (x:aW) (ge gf:SV) (F:Nat→Prop) (w:World) (hF:(sep (eH K tp.b m.room t) (kx K p m n tp)).p w F) (hK:∀ w',ix F w w'→K w') (yU:t.buf.length≤1000) (Js:xk m.mem) (tu:MB m.mem 1000000) (hxa:0≤x.a∧x.a<t.aK.length):CR 130 [(.pointer (some ⟨p,0,none⟩)),(.pointer (some ⟨tp.b,0,none⟩)),.int .i64 i,Flat.val (⟨x.kind,x.a,x.b,ge,gf,x.to⟩:bU)] w (λ v w'=>v=Flat.val (LI m t x)∧qj F (sep (eH K tp.b m.room (loadT m t x)) (kx K p (m) n tp)) w w'):=by
 have hs:=(St.begin hF).split;obtain ⟨bp,gl,rg,cn,qH,hs⟩:=eH.open hs;obtain ⟨a,hx,hs⟩:=kx.open hs.p4;refine Zn _ _ _ _ _ _ ?_;unfold S130;refine dE (x:=(⟨x.kind,x.a,x.b,ge,gf,x.to⟩:bU)) hs (λ Bd w1 hs=>aN hs kL (λ Bb w2 hs=>aE (aA nS (have hs:=hs.drew;aB rX hs.p7.hb rfl (aA eY (aB (v:=.int .i64 x.b) bL hs.p1.hb rfl (aZ ann hs (C194 bp x.b m.room t.buf _ (Qx hs.p8) (by omega)) (λ w3 he hs=>bE rfl (bE rfl ?_)))))))));refine ⟨_,?_,λ _ _ _ h=>h⟩;refine bZ (aX (λ iN=>?_) (λ iN=>?_))
 ·refine aE (aA jD (have hs:=hs.drew;aB rY hs.p2.hb rfl (aA eY (aB (v:=.int .i64 x.b) bL hs.p1.hb rfl (aZ aeF hs (agd a.q m.mem x.b _ (IN hs.p3 (hx.1.mem _ (hK _ hs.aF))) Js) (λ w4 he hs=>bE rfl (bE rfl ?_)))))));intro fB;refine aE (aA pw (have hs:=hs.drew;aB et hs.p7.hb rfl (aA kf (aB (v:=.int .i64 x.a) bL hs.p1.hb rfl ?_))));obtain ⟨afL,IL⟩:=gx (t.aK) (i:=(x.a).toNat) (by omega);refine dT hs.p9 ei (by omega) (by omega) (λ aq0 D3=>lE _ hs.p9 bL D3 (by omega) (λ w6 hs=>aA eY (aB (v:=.int .i64 x.b) bL hs.p2.hb rfl (pop (pB _ _ _) (aI (x:=(⟨1,0,x.b,(pL m.mem x.b),0⟩:cY)) hs.p1 eX rfl rfl (λ w7 hs=>aD eX hs.At ?_))))))
  have hn:Hc m t x=(pL m.mem x.b):=by unfold Hc; rw [if_neg (by simpa using iN)]
  have hk:(if (rz t.buf x.b).isSome=true then (2:Int) else 1)=1:=by rw [if_neg (by simpa using iN)]
  have hs:=eH.shut (room:=m.room) (t:=(⟨t.code,t.at_,((t.aK).set (x.a).toNat (pL m.mem x.b)),t.counts,t.fault,t.e,t.f,t.buf⟩:fM)) qH hs.qK.p2.qK.qK;have hs:=((kx.shut (m:=m) (⟨⟨hx.1.ln,hx.1.cl,hx.1.rc,hx.1.mem⟩,hx.2⟩) hs.p7.p7.p7.p7.p7).p2).drop;have hs:=(hs.p2.drop).p1;refine ⟨?_,?_⟩
  ·unfold LI; rw [hn,hk]
  ·rw [show loadT m t x=(⟨t.code,t.at_,((t.aK).set (x.a).toNat (pL m.mem x.b)),t.counts,t.fault,t.e,t.f,t.buf⟩:fM) from by unfold loadT; rw [hn]]; exact (St.join hs).mut
 ·intro fB;refine aE (aA pw (have hs:=hs.drew;aB et hs.p7.hb rfl (aA kf (aB (v:=.int .i64 x.a) bL hs.p1.hb rfl ?_))));obtain ⟨afL,IL⟩:=gx (t.aK) (i:=(x.a).toNat) (by omega);refine dT hs.p9 ei (by omega) (by omega) (λ aq0 D3=>lE _ hs.p9 bL D3 (by omega) (λ w6 hs=>aA eY (aB (v:=.int .i64 x.b) bL hs.p2.hb rfl (pop (pB _ _ _) (aI (x:=(⟨2,0,x.b,((rz t.buf x.b).getD 0),0⟩:cY)) hs.p1 eX rfl rfl (λ w7 hs=>aD eX hs.At ?_))))));have hn:Hc m t x=((rz t.buf x.b).getD 0):=by unfold Hc; rw [if_pos (by simpa using iN)]
  have hk:(if (rz t.buf x.b).isSome=true then (2:Int) else 1)=2:=by rw [if_pos (by simpa using iN)]
  have hs:=eH.shut (room:=m.room) (t:=(⟨t.code,t.at_,((t.aK).set (x.a).toNat ((rz t.buf x.b).getD 0)),t.counts,t.fault,t.e,t.f,t.buf⟩:fM)) qH hs.qK.p2.qK.qK;have hs:=((kx.shut (m:=m) (⟨⟨hx.1.ln,hx.1.cl,hx.1.rc,hx.1.mem⟩,hx.2⟩) hs.p7.p7.p7.p7.p7).p2).drop;have hs:=(hs.p2.drop).p1;refine ⟨?_,?_⟩
  ·unfold LI; rw [hn,hk]
  ·rw [show loadT m t x=(⟨t.code,t.at_,((t.aK).set (x.a).toNat ((rz t.buf x.b).getD 0)),t.counts,t.fault,t.e,t.f,t.buf⟩:fM) from by unfold loadT; rw [hn]]; exact (St.join hs).mut
theorem C132 (K:World→Prop) (p:Nat) (m:gL) (n:Nat) (tp:Ptr) (t:fM) (i:Int) (x:aW) (ge gf:SV) (F:Nat→Prop) (w:World) (hF:(sep (eH K tp.b m.room t) (kx K p m n tp)).p w F) (hK:∀ w',ix F w w'→K w') (yU:t.buf.length≤1000) (Js:xk m.mem) (tu:MB m.mem 1000000) (hxa:0≤x.a∧x.a<t.aK.length):CR 132 [(.pointer (some ⟨p,0,none⟩)),(.pointer (some ⟨tp.b,0,none⟩)),.int .i64 i,Flat.val (⟨x.kind,x.a,x.b,ge,gf,x.to⟩:bU)] w (λ v w'=>v=Flat.val (Od m t x)∧qj F (sep (eH K tp.b m.room (casT m t x)) (kx K p (BA m t x) n tp)) w w'):=by
 have hs:=(St.begin hF).split;obtain ⟨bp,gl,rg,cn,qH,hs⟩:=eH.open hs;obtain ⟨a,hx,hs⟩:=kx.open hs.p4;refine Zp _ _ _ _ _ _ ?_;unfold S132;refine dE (x:=(⟨x.kind,x.a,x.b,ge,gf,x.to⟩:bU)) hs (λ Bd w1 hs=>aN hs kL (λ Bb w2 hs=>aE (aA jD (have hs:=hs.drew;aB rY hs.p2.hb rfl (aA eY (aB (v:=.int .i64 x.b) bL hs.p1.hb rfl (aZ aeF hs (agd a.q m.mem x.b _ (IN hs.p3 (hx.1.mem _ (hK _ hs.aF))) Js) (λ w3 he hs=>bE rfl (bE rfl (aE (aA pw (have hs:=hs.drew;aB et hs.p7.hb rfl ?_))))))))))));refine aA kf (aB (v:=.int .i64 x.a) bL hs.p1.hb rfl ?_)
 obtain ⟨xZ,yz⟩:=gx (t.aK) (i:=(x.a).toNat) (by omega);refine dT hs.p9 ei (by omega) (by omega) (λ _ wj=>lE _ hs.p9 bL wj (by omega) (λ w4 hs=>aE (aA tJ (aB bL hs.p8.hb rfl (cS (aC (λ iC=>?_) (λ iC=>?_)))))))
 ·refine aA eY (aB (v:=.int .i64 x.b) bL hs.p2.hb rfl (pop (pB _ _ _) (aI (x:=(⟨9,0,x.b,(pL m.mem x.b),0⟩:cY)) hs.p1 eX rfl rfl (λ w5 hs=>aD eX hs.At ?_))));have Mw:BA m t x=m:=by unfold BA; rw [if_neg iC]
  have hce:Od m t x=⟨9,0,x.b,pL m.mem x.b,0⟩:=by unfold Od; rw [if_neg iC]
  have hs:=eH.shut (room:=m.room) (t:=(⟨t.code,t.at_,((t.aK).set (x.a).toNat (pL m.mem x.b)),t.counts,t.fault,t.e,t.f,t.buf⟩:fM)) qH hs.qK.p2.qK.qK;have hs:=kx.shut (m:=m) (⟨⟨hx.1.ln,hx.1.cl,hx.1.rc,λ w hw=>by first | exact hx.1.mem w hw | exact (hx.1.mem w hw).write⟩,hx.2⟩) hs.p7.p7.p7.p7.p7;have hs:=((hs.p2.drop.p2).drop).p1;refine ⟨?_,?_⟩
  ·rw [hce]; try rfl
  ·rw [Mw]; exact (St.join hs).mut
 ·refine aE (aA jD (have hs:=hs.drew;aB rY hs.p3.hb rfl (aA eY (aB (v:=.int .i64 x.b) bL hs.p2.hb rfl (aE (aA Du (aB bL hs.p8.hb rfl (bG TZ hs.p4 (H':=λ _=>fU a.q a.ov a.fv (iH m.mem x.b t.f)) (Φ:=λ _ _=>True) (λ F2 eQ eA=>?_) ?_))))))))
  ·exact (C128 a.q a.ov a.fv m.mem F2 x.b _ _ eQ (λ w' hc=>hx.1.mem _ (hK w' (eA w' hc).aF)) Js tu).mono λ _ _ r=>r.mono λ _ _ h=>⟨trivial,h.2⟩
  rintro _ w6 _ hs;refine aA eY (have hs:=hs.drew;aB (v:=.int .i64 x.b) bL hs.p3.hb rfl (aE (aA Du (aB bL hs.p8.hb rfl (pop (FH _ _ _ _) (aI (x:=(⟨8,0,x.b,(pL m.mem x.b),t.f⟩:cY)) hs.p2 eX rfl rfl (λ w7 hs=>aD eX hs.At ?_)))))));have Mw:BA m t x={m with mem:=iH m.mem x.b t.f}:=by unfold BA; rw [if_pos (by simpa using iC)]
  have hce:Od m t x=⟨8,0,x.b,pL m.mem x.b,t.f⟩:=by unfold Od; rw [if_pos (by simpa using iC)]
  have hs:=eH.shut (room:=m.room) (t:=(⟨t.code,t.at_,((t.aK).set (x.a).toNat (pL m.mem x.b)),t.counts,t.fault,t.e,t.f,t.buf⟩:fM)) qH hs.qK.p3.qK.qK;have hs:=kx.shut (m:={m with mem:=iH m.mem x.b t.f}) (⟨⟨hx.1.ln,hx.1.cl,hx.1.rc,λ w hw=>by first | exact hx.1.mem w hw | exact (hx.1.mem w hw).write⟩,hx.2⟩) hs.p7.p7.p7.p5.p7;have hs:=((hs.p2.drop.p2).drop).p1;refine ⟨?_,?_⟩
  ·rw [hce]; try rfl
  ·rw [Mw]; exact (St.join hs).mut
theorem C133 (K:World→Prop) (p:Nat) (m:gL) (n:Nat) (tp:Ptr) (t:fM) (i:Int) (x:aW) (ge gf:SV) (F:Nat→Prop) (w:World) (hF:(sep (eH K tp.b m.room t) (kx K p m n tp)).p w F) (hK:∀ w',ix F w w'→K w') (yU:t.buf.length≤1000) (Js:xk m.mem) (tu:MB m.mem 1000000):CR 133 [(.pointer (some ⟨p,0,none⟩)),(.pointer (some ⟨tp.b,0,none⟩)),.int .i64 i,Flat.val (⟨x.kind,x.a,x.b,ge,gf,x.to⟩:bU)] w (λ v w'=>v=Flat.val ((⟨7,0,0,0,0⟩:cY))∧qj F (sep (eH K tp.b m.room (t)) (kx K p (m) n tp)) w w'):=by
 have hs:=(St.begin hF).split;obtain ⟨bp,gl,rg,cn,qH,hs⟩:=eH.open hs;obtain ⟨a,hx,hs⟩:=kx.open hs.p4;refine Zq _ _ _ _ _ _ ?_;unfold S133;refine dE (x:=(⟨x.kind,x.a,x.b,ge,gf,x.to⟩:bU)) hs (λ Bd w1 hs=>aN hs kL (λ Bb w2 hs=>pop (abq _) (aI (x:=(⟨7,0,0,0,0⟩:cY)) hs eX rfl rfl (λ w3 hs=>aD eX hs.At ?_))));have hs:=eH.shut (room:=m.room) (t:=(⟨t.code,t.at_,t.aK,t.counts,t.fault,t.e,t.f,t.buf⟩:fM)) qH hs.qK.qK.qK.qK;have hs:=((kx.shut (m:=m) (⟨⟨hx.1.ln,hx.1.cl,hx.1.rc,hx.1.mem⟩,hx.2⟩) hs.p7.p7.p7.p7.p7).p2).drop;have hs:=(hs.p2.drop).p1;refine ⟨?_,?_⟩
 ·rfl
 ·skip; exact (St.join hs).mut
theorem C134 (K:World→Prop) (p:Nat) (m:gL) (n:Nat) (tp:Ptr) (t:fM) (i:Int) (x:aW) (ge gf:SV) (F:Nat→Prop) (w:World) (hF:(sep (eH K tp.b m.room t) (kx K p m n tp)).p w F) (hK:∀ w',ix F w w'→K w') (yU:t.buf.length≤1000) (Js:xk m.mem) (tu:MB m.mem 1000000) (hxb:0≤x.b∧x.b<m.locks.length):CR 134 [(.pointer (some ⟨p,0,none⟩)),(.pointer (some ⟨tp.b,0,none⟩)),.int .i64 i,Flat.val (⟨x.kind,x.a,x.b,ge,gf,x.to⟩:bU)] w (λ v w'=>v=Flat.val ((⟨10,0,x.b,0,0⟩:cY))∧qj F (sep (eH K tp.b m.room (t)) (kx K p (ye m i x) n tp)) w w'):=by
 have hs:=(St.begin hF).split;obtain ⟨bp,gl,rg,cn,qH,hs⟩:=eH.open hs;obtain ⟨a,hx,hs⟩:=kx.open hs.p4;refine Zr _ _ _ _ _ _ ?_;unfold S134;refine dE (x:=(⟨x.kind,x.a,x.b,ge,gf,x.to⟩:bU)) hs (λ Bd w1 hs=>aN hs kL (λ Bb w2 hs=>aE (aA nQ (have hs:=hs.drew;aB et hs.p2.hb rfl (aA eY (aB (v:=.int .i64 x.b) bL hs.p1.hb rfl ?_))))));obtain ⟨GL,kM⟩:=gx (m.locks) (i:=(x.b).toNat) (by omega);refine dT hs.p4 ei (by omega) (by omega) (λ _ tU=>lE _ hs.p4 bL tU (by omega) (λ w3 hs=>aA eY (aB (v:=.int .i64 x.b) bL hs.p2.hb rfl (pop (A7 _ _) (aI (x:=(⟨10,0,x.b,0,0⟩:cY)) hs.p1 eX rfl rfl (λ w4 hs=>aD eX hs.At ?_))))))
 have hs:=eH.shut (room:=m.room) (t:=(⟨t.code,t.at_,t.aK,t.counts,t.fault,t.e,t.f,t.buf⟩:fM)) qH hs.qK.qK.qK.qK;have hs:=kx.shut (m:=(ye m i x)) (⟨⟨hx.1.ln,hx.1.cl,hx.1.rc,hx.1.mem⟩,hx.2⟩) hs.p7.p7.p4.p7.p7;have hs:=((hs.p2.drop.p2).drop).p1;refine ⟨?_,?_⟩
 ·rfl
 ·skip; exact (St.join hs).mut
theorem C135 (K:World→Prop) (p:Nat) (m:gL) (n:Nat) (tp:Ptr) (t:fM) (i:Int) (x:aW) (ge gf:SV) (F:Nat→Prop) (w:World) (hF:(sep (eH K tp.b m.room t) (kx K p m n tp)).p w F) (hK:∀ w',ix F w w'→K w') (yU:t.buf.length≤1000) (Js:xk m.mem) (tu:MB m.mem 1000000) (hxb:0≤x.b∧x.b<m.locks.length):CR 135 [(.pointer (some ⟨p,0,none⟩)),(.pointer (some ⟨tp.b,0,none⟩)),.int .i64 i,Flat.val (⟨x.kind,x.a,x.b,ge,gf,x.to⟩:bU)] w (λ v w'=>v=Flat.val (E4 m i x)∧qj F (sep (eH K tp.b m.room (t)) (kx K p (ur m i x) n tp)) w w'):=by
 have hs:=(St.begin hF).split;obtain ⟨bp,gl,rg,cn,qH,hs⟩:=eH.open hs;obtain ⟨a,hx,hs⟩:=kx.open hs.p4;refine Zs _ _ _ _ _ _ ?_;unfold S135;refine dE (x:=(⟨x.kind,x.a,x.b,ge,gf,x.to⟩:bU)) hs (λ Bd w1 hs=>aN hs kL (λ Bb w2 hs=>aE (aA nQ (have hs:=hs.drew;aB et hs.p2.hb rfl (aA eY (aB (v:=.int .i64 x.b) bL hs.p1.hb rfl ?_))))));obtain ⟨pF,jQ⟩:=gx (m.locks) (i:=(x.b).toNat) (by omega);refine dT hs.p4 ei (by omega) (by omega) (λ _ qZ=>gj hs.p4 bL qZ jQ (cS (aC (λ gd=>?_) (λ gd=>?_))))
 ·refine aE (aA nR (aV hs.p2 bL (eJ rfl) (rfl) (λ w3 hs=>aE (aA Dt (aV hs bL (eJ rfl) (rfl) (λ w4 hs=>pop (A7 _ _) (aI (x:=(⟨16,0,3,0,0⟩:cY)) hs.p1 eX rfl rfl (λ w5 hs=>aD eX hs.At ?_))))))));have hgd:m.locks.getD x.b.toNat 0=pF:=by rw [List.getD_eq_getElem?_getD,jQ]; rfl
  have hgm:ur m i x={m with fault:=3,mK:=i}:=by unfold ur; rw [hgd,if_neg gd]
  have HV:E4 m i x=⟨16,0,3,0,0⟩:=by unfold E4; rw [hgd,if_neg gd]
  have hs:=eH.shut (room:=m.room) (t:=(⟨t.code,t.at_,t.aK,t.counts,t.fault,t.e,t.f,t.buf⟩:fM)) qH hs.qK.qK.qK.qK;have hs:=kx.shut (m:={m with fault:=3,mK:=i}) (⟨⟨hx.1.ln,hx.1.cl,hx.1.rc,hx.1.mem⟩,hx.2⟩) hs.p7.p7.p7.p7.p6;have hs:=((hs.p2.drop.p2).drop).p1;refine ⟨?_,?_⟩
  ·rw [HV]; try rfl
  ·rw [hgm]; exact (St.join hs).mut
 ·refine aE (aA nQ (have hs:=hs.drew;aB et hs.p2.hb rfl (aA eY (aB (v:=.int .i64 x.b) bL hs.p1.hb rfl (dT hs.p4 ei (by omega) (by omega) (λ _ zY=>lE _ hs.p4 bL zY (by omega) (λ w6 hs=>aA eY (aB (v:=.int .i64 x.b) bL hs.p2.hb rfl (pop (A7 _ _) (aI (x:=(⟨11,0,x.b,0,0⟩:cY)) hs.p1 eX rfl rfl (λ w7 hs=>aD eX hs.At ?_)))))))))));have hgd:m.locks.getD x.b.toNat 0=pF:=by rw [List.getD_eq_getElem?_getD,jQ]; rfl
  have hgm:ur m i x={m with locks:=m.locks.set x.b.toNat (-1)}:=by unfold ur; rw [hgd,if_pos (by simpa using gd)]
  have HV:E4 m i x=⟨11,0,x.b,0,0⟩:=by unfold E4; rw [hgd,if_pos (by simpa using gd)]
  have hs:=eH.shut (room:=m.room) (t:=(⟨t.code,t.at_,t.aK,t.counts,t.fault,t.e,t.f,t.buf⟩:fM)) qH hs.qK.qK.qK.qK;have hs:=kx.shut (m:={m with locks:=m.locks.set x.b.toNat (-1)}) (⟨⟨hx.1.ln,hx.1.cl,hx.1.rc,hx.1.mem⟩,hx.2⟩) hs.p7.p7.p4.p7.p7;have hs:=((hs.p2.drop.p2).drop).p1;refine ⟨?_,?_⟩
  ·rw [HV]; try rfl
  ·rw [hgm]; exact (St.join hs).mut
theorem C131 (K:World→Prop) (p:Nat) (m:gL) (n:Nat) (tp:Ptr) (t:fM) (i:Int) (x:aW) (ge gf:SV) (F:Nat→Prop) (w:World) (hF:(sep (eH K tp.b m.room t) (kx K p m n tp)).p w F) (hK:∀ w',ix F w w'→K w') (yU:t.buf.length≤1000) (Js:xk m.mem) (tu:MB m.mem 1000000) (hkd:x.kind=3∨x.kind=5∨x.kind=6∨x.kind=7) (O6:x.kind=3→0≤x.b∧x.b<m.u.lines.length):CR 131 [(.pointer (some ⟨p,0,none⟩)),(.pointer (some ⟨tp.b,0,none⟩)),.int .i64 i,Flat.val (⟨x.kind,x.a,x.b,ge,gf,x.to⟩:bU)] w (λ v w'=>v=Flat.val (B4 m t x)∧qj F (sep (eH K tp.b m.room (vu m t x)) (kx K p (m) n tp)) w w'):=by
 have hs:=(St.begin hF).split;obtain ⟨bp,gl,rg,cn,qH,hs⟩:=eH.open hs;obtain ⟨a,hx,hs⟩:=kx.open hs.p4;refine Zo _ _ _ _ _ _ ?_;unfold S131;refine dE (x:=(⟨x.kind,x.a,x.b,ge,gf,x.to⟩:bU)) hs (λ Bd w1 hs=>aN hs kL (λ Bb w2 hs=>wC hs (λ VC w3 hs=>g9 hs Tryz.underlying272 oJ (by decide) (λ w4 hs=>g9 hs Tryz.underlying272 oJ (by decide) (λ w5 hs=>g9 hs Tryz.underlying272 oJ (by decide) (λ w6 hs=>g9 hs Tryz.underlying272 oJ (by decide) (λ w7 hs=>aA jg (aB (v:=.int .i64 x.kind) bL hs.p2.hb rfl (aA eY (aB (v:=.int .i64 x.b) bL hs.p2.hb rfl (pop (M0 _ _) (aN hs uL (λ b_y10 w8 hs=>?_)))))))))))))
 refine aI (x:=(⟨x.kind,x.b,0,0⟩:bJ)) hs kW rfl rfl (λ w9 hs=>?_);refine ⟨_,?_,λ _ h=>h⟩;refine aA jg (aB (v:=.int .i64 x.kind) bL hs.p3.hb rfl (aH (aC (λ js=>?_) (λ js=>?_))))
 ·have hxb:=O6 js;refine aE (aA tH (aA mn (have hs:=hs.drew;aB et hs.p4.hb rfl (aA eY (aB (v:=.int .i64 x.b) bL hs.p3.hb rfl ?_)))));obtain ⟨xZ,yz⟩:=gx (m.u.lines) (i:=(x.b).toNat) (by omega);refine aQ ei (hx.1.ln _ (hK _ hs.aF)) (by omega) yz (λ _ wj=>aD bL (wj) (aA eY (aB (v:=.int .i64 x.b) bL hs.p3.hb rfl (aE (aA tJ (aB bL hs.p9.hb rfl (aA kX (aV hs bL (eJ rfl) (rfl) (λ pP hs=>?_)))))))));have hs:=hs.enc (cs':=Flat.enc ({ (⟨x.kind,x.b,0,0⟩:bJ) with line:=xZ}:bJ)) rfl;refine ⟨aG bL (hs.p3.hb.cell rfl),?_⟩
  refine ⟨aG bL (hs.p9.hb.cell rfl),?_⟩;refine aA nT (aV hs bL (eJ rfl) (rfl) (λ sQ hs=>?_));have hs:=hs.enc (cs':=Flat.enc ({ ({ (⟨x.kind,x.b,0,0⟩:bJ) with line:=xZ}:bJ) with cell:=x.b}:bJ)) rfl;refine ⟨aG bL (hs.p9.hb.cell rfl),?_⟩;refine aA mT (aV hs bL (eJ rfl) (rfl) (λ vl hs=>?_));have hs:=hs.enc (cs':=Flat.enc ({ ({ ({ (⟨x.kind,x.b,0,0⟩:bJ) with line:=xZ}:bJ) with cell:=x.b}:bJ) with n:=t.e}:bJ)) rfl;intro fB;refine aE (aA nS (have hs:=hs.drew;aB rX hs.p9.hb rfl ?_));have hpy:uq m t x=({ ({ ({ (⟨x.kind,x.b,0,0⟩:bJ) with line:=xZ}:bJ) with cell:=x.b}:bJ) with n:=t.e}:bJ):=by unfold uq; rw [if_pos js,List.getD_eq_getElem?_getD,yz,← js]; rfl
  refine aD kW hs.At (bG aeG hs.qK (H':=λ _=>nH bp m.room (wB m.room t.buf (uq m t x))) (Φ:=λ _ _=>True) (λ F2 eQ eA=>?_) ?_)
  ·rw [hpy]; exact (C196 bp m.room t.buf ({ ({ ({ (⟨x.kind,x.b,0,0⟩:bJ) with line:=xZ}:bJ) with cell:=x.b}:bJ) with n:=t.e}:bJ) F2 _ eQ (by omega)).mono λ _ _ r=>r.mono λ _ _ h=>⟨trivial,h.2⟩
  rintro _ sd _ hs;refine aA jg (aB (v:=.int .i64 x.kind) bL hs.p4.hb rfl ?_)
  have Mr:(Go.Fw.look [3,5,6,7] [Value.int .i64 3,.int .i64 4,.int .i64 5,.int .i64 6] x.kind).getD (.int .i64 0) = .int .i64 (yL x.kind):=by
   have hk4:=hkd
   rcases hk4 with h | h | h | h <;> rw [h] <;> rfl
  refine ⟨_,oX hs.p2.Ah Tryz.underlying272 oJ BM,?_⟩;rw [show (Go.Fw.look ([]++[3]++[5]++[6]++[7]) ([]++[Value.int .i64 3]++[Value.int .i64 4]++[Value.int .i64 5]++[Value.int .i64 6]) x.kind).getD (.int .i64 0) = .int .i64 (yL x.kind) from Mr];refine aA eY (aB (v:=.int .i64 x.b) bL hs.p4.hb rfl (aA mT (aB (v:=.int .i64 ((({ ({ ({ (⟨x.kind,x.b,0,0⟩:bJ) with line:=xZ}:bJ) with cell:=x.b}:bJ) with n:=t.e}:bJ)).n)) bL hs.p1.hb rfl (pop (pB _ _ _) (aI (x:=(⟨(yL x.kind),0,x.b,(({ ({ ({ (⟨x.kind,x.b,0,0⟩:bJ) with line:=xZ}:bJ) with cell:=x.b}:bJ) with n:=t.e}:bJ)).n,0⟩:cY)) hs.p3 eX rfl rfl (λ v7 hs=>aD eX hs.At ?_))))))
  have hs:=eH.shut (room:=m.room) (t:=(⟨t.code,t.at_,t.aK,t.counts,t.fault,t.e,t.f,(wB m.room t.buf (uq m t x))⟩:fM)) qH hs.p12.p12.p3.p12;have hs:=((kx.shut (m:=m) (⟨⟨hx.1.ln,hx.1.cl,hx.1.rc,hx.1.mem⟩,hx.2⟩) hs.p9.p9.p9.p9.p9).p2).drop;have hs:=(((hs.p2.drop.p2.drop).p2).drop).p1;refine ⟨?_,?_⟩
  ·unfold B4; rw [hpy]
  ·rw [show vu m t x=(⟨t.code,t.at_,t.aK,t.counts,t.fault,t.e,t.f,(wB m.room t.buf (uq m t x))⟩:fM) from rfl]; exact (St.join hs).mut
 ·intro fB;refine aE (aA nS (have hs:=hs.drew;aB rX hs.p9.hb rfl ?_));have hpy:uq m t x=(⟨x.kind,x.b,0,0⟩:bJ):=by unfold uq; rw [if_neg js]
  refine aD kW hs.At (bG aeG hs.qK (H':=λ _=>nH bp m.room (wB m.room t.buf (uq m t x))) (Φ:=λ _ _=>True) (λ F2 eQ eA=>?_) ?_)
  ·rw [hpy]; exact (C196 bp m.room t.buf (⟨x.kind,x.b,0,0⟩:bJ) F2 _ eQ (by omega)).mono λ _ _ r=>r.mono λ _ _ h=>⟨trivial,h.2⟩
  rintro _ sd _ hs;refine aA jg (aB (v:=.int .i64 x.kind) bL hs.p4.hb rfl ?_)
  have Mr:(Go.Fw.look [3,5,6,7] [Value.int .i64 3,.int .i64 4,.int .i64 5,.int .i64 6] x.kind).getD (.int .i64 0) = .int .i64 (yL x.kind):=by
   have hk4:=hkd
   rcases hk4 with h | h | h | h <;> rw [h] <;> rfl
  refine ⟨_,oX hs.p2.Ah Tryz.underlying272 oJ BM,?_⟩;rw [show (Go.Fw.look ([]++[3]++[5]++[6]++[7]) ([]++[Value.int .i64 3]++[Value.int .i64 4]++[Value.int .i64 5]++[Value.int .i64 6]) x.kind).getD (.int .i64 0) = .int .i64 (yL x.kind) from Mr];refine aA eY (aB (v:=.int .i64 x.b) bL hs.p4.hb rfl (aA mT (aB (v:=.int .i64 (((⟨x.kind,x.b,0,0⟩:bJ)).n)) bL hs.p1.hb rfl (pop (pB _ _ _) (aI (x:=(⟨(yL x.kind),0,x.b,((⟨x.kind,x.b,0,0⟩:bJ)).n,0⟩:cY)) hs.p3 eX rfl rfl (λ v7 hs=>aD eX hs.At ?_))))));have hs:=eH.shut (room:=m.room) (t:=(⟨t.code,t.at_,t.aK,t.counts,t.fault,t.e,t.f,(wB m.room t.buf (uq m t x))⟩:fM)) qH hs.p12.p12.p3.p12
  have hs:=((kx.shut (m:=m) (⟨⟨hx.1.ln,hx.1.cl,hx.1.rc,hx.1.mem⟩,hx.2⟩) hs.p9.p9.p9.p9.p9).p2).drop;have hs:=(((hs.p2.drop.p2.drop).p2).drop).p1;refine ⟨?_,?_⟩
  ·unfold B4; rw [hpy]
  ·rw [show vu m t x=(⟨t.code,t.at_,t.aK,t.counts,t.fault,t.e,t.f,(wB m.room t.buf (uq m t x))⟩:fM) from rfl]; exact (St.join hs).mut
def ia (m:Mem) (x:bJ):Mem:=if x.kind=3 then iH m x.cell x.n else if x.kind=7 then m else vC m x.line
def pM (t:Int) (x:bJ):cY:=if x.kind=3 then ⟨12,t,x.cell,x.n,0⟩ else if x.kind=7 then ⟨14,t,0,0,0⟩ else ⟨13,t,x.line,0,0⟩
def mv (m:gL) (t:fM) (p:ep):gL:={m with mem:=ia m.mem (eh t.buf p.i),l:=m.l.set p.t.toNat {t with buf:=mc t.buf p.i}}
section
variable {m:gL} {t:fM} {i:Int} {x:aW}
theorem xl:(dY m t i x).1.room=m.room:=by
 unfold dY BA ye ur; repeat' split
 all_goals rfl
theorem I0:(dY m t i x).1.l=m.l:=by
 unfold dY BA ye ur; repeat' split
 all_goals rfl
theorem Oe:(dY m t i x).1.u=m.u:=by
 unfold dY BA ye ur; repeat' split
 all_goals rfl
theorem CM:(dY m t i x).2.1.at_=t.at_:=by
 unfold dY loadT casT vu; repeat' split
 all_goals rfl
theorem qI:(dY m t i x).2.1.code=t.code:=by
 unfold dY loadT casT vu; repeat' split
 all_goals rfl
theorem W3 {room:Int} {l:List bJ} {y:bJ}:(wB room l y).length≤l.length∨((wB room l y).length:Int)≤room:=by
 unfold wB; split
 ·rename_i h; right; simp; omega
 ·left; exact Nat.le_refl _
theorem QI (h:G7 t) (hr:m.room≤16):G7 (dY m t i x).2.1:=by
 have h1:=h.rg; have h2:=h.cn; have h3:=h.Tl; have h4:=h.bl
 have h5:=W3 (room:=m.room) (l:=t.buf) (y:=uq m t x)
 unfold dY loadT casT vu
 repeat' split
 all_goals first
  | exact h
  | exact ⟨h.code,by simpa using h1,h2,h3,h4⟩
  | exact ⟨h.code,h1,h2,h3,by dsimp only; omega⟩
end
def mF (N:Nat) (m:gL) (i:Int):Option (gL × cY):=match m.l[i.toNat]? with
 | none=>none
 | some t=>if t.fault≠0 then some ({m with fault:=t.fault,mK:=i},⟨16,i,t.fault,0,0⟩) else match gS t with
  | none=>none
  | some x=>if (dY m t i x).1.fault=0 then
    (sJ N { (dY m t i x).2.1 with at_:=(dY m t i x).2.1.at_+1}).map λ t2=>({ (dY m t i x).1 with l:=(dY m t i x).1.l.set i.toNat t2},{ (dY m t i x).2.2 with t:=i})
   else some ({ (dY m t i x).1 with l:=(dY m t i x).1.l.set i.toNat (dY m t i x).2.1},{ (dY m t i x).2.2 with t:=i})
theorem Au {N:Nat} {m m':gL} {i:Int} {t:fM} {ev:cY} (h:mF N m i=some (m',ev)) (ht:m.l[i.toNat]? = some t) (hf:t.fault≠0):m'={m with fault:=t.fault,mK:=i}∧ev=⟨16,i,t.fault,0,0⟩:=by
 unfold mF at h; rw [ht] at h; dsimp only at h; rw [if_pos hf] at h
 have:=Option.some.inj h
 exact ⟨(congrArg Prod.fst this).symm,(congrArg Prod.snd this).symm⟩
theorem Av {N:Nat} {m m':gL} {i:Int} {t:fM} {ev:cY} (h:mF N m i=some (m',ev)) (ht:m.l[i.toNat]? = some t) (hf:¬ t.fault≠0):∃ x,gS t=some x:=by
 unfold mF at h; rw [ht] at h; dsimp only at h; rw [if_neg hf] at h
 cases hn:gS t with
 | none=>rw [hn] at h; cases h
 | some x=>exact ⟨x,rfl⟩
theorem Aw {N:Nat} {m m':gL} {i:Int} {t:fM} {x:aW} {ev:cY} (h:mF N m i=some (m',ev)) (ht:m.l[i.toNat]? = some t) (hf:¬ t.fault≠0) (hn:gS t=some x) (h0:(dY m t i x).1.fault=0) :
  ∃ t2,sJ N { (dY m t i x).2.1 with at_:=(dY m t i x).2.1.at_+1}=some t2∧m'={ (dY m t i x).1 with l:=(dY m t i x).1.l.set i.toNat t2}∧ev={ (dY m t i x).2.2 with t:=i}:=by
 unfold mF at h; rw [ht] at h; dsimp only at h; rw [if_neg hf,hn] at h; dsimp only at h; rw [if_pos h0] at h
 cases hg:sJ N { (dY m t i x).2.1 with at_:=(dY m t i x).2.1.at_+1} with
 | none=>rw [hg] at h; cases h
 | some t2=>
  rw [hg] at h
  have:=Option.some.inj h
  exact ⟨t2,rfl,(congrArg Prod.fst this).symm,(congrArg Prod.snd this).symm⟩
theorem Ax {N:Nat} {m m':gL} {i:Int} {t:fM} {x:aW} {ev:cY} (h:mF N m i=some (m',ev)) (ht:m.l[i.toNat]? = some t) (hf:¬ t.fault≠0) (hn:gS t=some x) (h0:¬ (dY m t i x).1.fault=0) :
  m'={ (dY m t i x).1 with l:=(dY m t i x).1.l.set i.toNat (dY m t i x).2.1}∧ev={ (dY m t i x).2.2 with t:=i}:=by
 unfold mF at h; rw [ht] at h; dsimp only at h; rw [if_neg hf,hn] at h; dsimp only at h; rw [if_neg h0] at h
 have:=Option.some.inj h
 exact ⟨(congrArg Prod.fst this).symm,(congrArg Prod.snd this).symm⟩
def W4:List Int:=[]++[2]++[3]++[5]++[6]++[7]++[4]++[8]++[9]++[10]
def Of (g:Nat):Value:=.func (.func g) #[] #[]
def W5:List Value:=[]++[Of 130]++[Of 131]++[Of 131]++[Of 131]++[Of 131]++[Of 132]++[Of 133]++[Of 134]++[Of 135]
theorem W6 (K:World→Prop) (p:Nat) (m:gL) (n:Nat) (tp:Ptr) (t:fM) (i:Int) (x:aW) (ge gf:SV) (hk:2≤x.kind∧x.kind≤10) (yU:t.buf.length≤1000) (Js:xk m.mem) (tu:MB m.mem 1000000)
  (hxa:x.kind=2∨x.kind=4→0≤x.a∧x.a<t.aK.length) (hxb:x.kind=9∨x.kind=10→0≤x.b∧x.b<m.locks.length) (O6:x.kind=3→0≤x.b∧x.b<m.u.lines.length) :
  ∃ g,Go.Fw.look W4 W5 x.kind=some (Of g)∧Plain PG g∧∀ (F:Nat→Prop) (w:World),(sep (eH K tp.b m.room t) (kx K p m n tp)).p w F→(∀ w',ix F w w'→K w')→
   Calls PG g [.pointer (some ⟨p,0,none⟩),.pointer (some ⟨tp.b,0,none⟩),.int .i64 i,Flat.val (⟨x.kind,x.a,x.b,ge,gf,x.to⟩:bU)].toArray w
    (qf λ v w'=>v=Flat.val (dY m t i x).2.2∧qj F (sep (eH K tp.b (dY m t i x).1.room (dY m t i x).2.1) (kx K p (dY m t i x).1 n tp)) w w'):=by
 have hr:=xl (m:=m) (t:=t) (i:=i) (x:=x)
 rw [hr]
 obtain h | h | h | h | h | h | h | h | h:x.kind=2∨x.kind=3∨x.kind=4∨x.kind=5∨x.kind=6∨x.kind=7∨x.kind=8∨x.kind=9∨x.kind=10:=by omega
 ·exact ⟨130,by rw [h]; rfl,amT,λ F w hF hK=>by
   have e:dY m t i x=(m,loadT m t x,LI m t x):=by unfold dY; rw [if_pos h]
   rw [e]; exact C130 K p m n tp t i x ge gf F w hF hK yU Js tu (hxa (.inl h))⟩
 ·exact ⟨131,by rw [h]; rfl,Pc,λ F w hF hK=>by
   have e:dY m t i x=(m,vu m t x,B4 m t x):=by unfold dY; simp [h]
   rw [e]; exact C131 K p m n tp t i x ge gf F w hF hK yU Js tu (.inl h) O6⟩
 ·exact ⟨132,by rw [h]; rfl,amU,λ F w hF hK=>by
   have e:dY m t i x=(BA m t x,casT m t x,Od m t x):=by unfold dY; simp [h]
   rw [e]; exact C132 K p m n tp t i x ge gf F w hF hK yU Js tu (hxa (.inr h))⟩
 ·exact ⟨131,by rw [h]; rfl,Pc,λ F w hF hK=>by
   have e:dY m t i x=(m,vu m t x,B4 m t x):=by unfold dY; simp [h]
   rw [e]; exact C131 K p m n tp t i x ge gf F w hF hK yU Js tu (.inr (.inl h)) O6⟩
 ·exact ⟨131,by rw [h]; rfl,Pc,λ F w hF hK=>by
   have e:dY m t i x=(m,vu m t x,B4 m t x):=by unfold dY; simp [h]
   rw [e]; exact C131 K p m n tp t i x ge gf F w hF hK yU Js tu (.inr (.inr (.inl h))) O6⟩
 ·exact ⟨131,by rw [h]; rfl,Pc,λ F w hF hK=>by
   have e:dY m t i x=(m,vu m t x,B4 m t x):=by unfold dY; simp [h]
   rw [e]; exact C131 K p m n tp t i x ge gf F w hF hK yU Js tu (.inr (.inr (.inr h))) O6⟩
 ·exact ⟨133,by rw [h]; rfl,amV,λ F w hF hK=>by
   have e:dY m t i x=(m,t,⟨7,0,0,0,0⟩):=by unfold dY; simp [h]
   rw [e]; exact C133 K p m n tp t i x ge gf F w hF hK yU Js tu⟩
 ·exact ⟨134,by rw [h]; rfl,amW,λ F w hF hK=>by
   have e:dY m t i x=(ye m i x,t,⟨10,0,x.b,0,0⟩):=by unfold dY; simp [h]
   rw [e]; exact C134 K p m n tp t i x ge gf F w hF hK yU Js tu (hxb (.inl h))⟩
 ·exact ⟨135,by rw [h]; rfl,amX,λ F w hF hK=>by
   have e:dY m t i x=(ur m i x,t,E4 m i x):=by unfold dY; simp [h]
   rw [e]; exact C135 K p m n tp t i x ge gf F w hF hK yU Js tu (hxb (.inr h))⟩
theorem W7 {k:Int} {g:Nat} {z:Value} (h:Go.Fw.look W4 W5 k=some (Of g)):(Go.Fw.look ([]++[2]++[3]++[5]++[6]++[7]++[4]++[8]++[9]++[10]) ([]++[Value.func (.func 130) #[] #[]]++[Value.func (.func 131) #[] #[]]++[Value.func (.func 131) #[] #[]]++[Value.func (.func 131) #[] #[]]++[Value.func (.func 131) #[] #[]]++[Value.func (.func 132) #[] #[]]++[Value.func (.func 133) #[] #[]]++[Value.func (.func 134) #[] #[]]++[Value.func (.func 135) #[] #[]]) k).getD z=Of g:=by
 have h2:Go.Fw.look ([]++[2]++[3]++[5]++[6]++[7]++[4]++[8]++[9]++[10]) ([]++[Value.func (.func 130) #[] #[]]++[Value.func (.func 131) #[] #[]]++[Value.func (.func 131) #[] #[]]++[Value.func (.func 131) #[] #[]]++[Value.func (.func 131) #[] #[]]++[Value.func (.func 132) #[] #[]]++[Value.func (.func 133) #[] #[]]++[Value.func (.func 134) #[] #[]]++[Value.func (.func 135) #[] #[]]) k=some (Of g):=h
 rw [h2]; rfl
theorem C62 (K:World→Prop) (p:Nat) (m:gL) (q:ep) (qv:dJ) (t:fM) (F:Nat→Prop) (w:World) (hF:(eO K p m).p w F) (hK:∀ w',ix F w w'→K w') (mu:rE m) (tu:MB m.mem 1000000) (hq:cA.dr w qv q) (h0:0≤q.t) (ht:m.l[q.t.toNat]? = some t):CR 62 [(.pointer (some ⟨p,0,none⟩)),Flat.val qv] w (λ v w'=>v=Flat.val (pM q.t (eh t.buf q.i))∧qj F (eO K p (mv m t q)) w w'):=by
 have hs:=St.begin hF;obtain ⟨a,hu,hs⟩:=eO.open hs;have wG:=hs.p4.lg;obtain ⟨QG,rfl,ado⟩:=hq;have yU:=(mu.th t (List.mem_of_getElem? ht)).bl;have mz:=(List.getElem?_eq_some_iff.1 ht).1;refine ahp _ _ _ _ ?_;unfold S62;refine dE hs (λ xG w1 hs=>aN hs kL (λ Cj w2 hs=>?_));refine ⟨_,?_,λ _ _ h=>h⟩;refine aE (aA j9 (have hs:=hs.drew;aB qR hs.p2.hb rfl (aA jC (aB (v:=.int .i64 ((q).t)) bL hs.p1.hb rfl ?_))));obtain ⟨jk,dD⟩:=gx (a.ps) (i:=((q).t).toNat) (by omega);refine dT hs.p5 rZ (by omega) (by omega) (λ _ iM=>gj hs.p5 BN iM dD ?_)
 have hs:=WZ hs.p6 dD ht;obtain ⟨bp,gl,rg,cn,qH,hs⟩:=eH.open hs;refine aE (aA nS (aB rX hs.hb rfl (aA wW (aB (v:=.int .i64 ((q).i)) bL hs.p6.hb rfl ?_))));refine ⟨?_,?_⟩
 ·refine bG aev hs.p1 (H':=λ _=>nH bp m.room (mc t.buf q.i)) (Φ:=λ v _=>v = .tuple #[Flat.val (eh t.buf q.i),.int .i64 (Ag t.buf q.i)]) (λ F2 eQ eA=>?_) ?_
  ·exact C127 bp m.room t.buf q.i F2 _ eQ (by omega)
  rintro _ w3 rfl hs;refine bE rfl (bE rfl (aN hs uL (λ ub w4 hs=>?_)));refine ⟨aG qR (hs.p8.hb.cell rfl),?_⟩;refine ⟨aG bL (hs.p7.hb.cell rfl),?_⟩;refine ⟨PI hs.p11 BN iM dD,?_⟩;refine ⟨aG rX (hs.p2.hb.cell rfl),?_⟩;refine ⟨aG bL (hs.p7.hb.cell rfl),?_⟩;refine aI (x:=(eh t.buf q.i)) hs kW rfl rfl (λ w5 hs=>?_);intro fB;refine aA px (aB (v:=.int .i64 (((eh t.buf q.i)).kind)) bL hs.hb rfl (aH (aC (λ gh=>?_) (λ gh=>?_))))
  ·refine aE (aA jD (have hs:=hs.drew;aB rY hs.p8.hb rfl (aA nT (aB (v:=.int .i64 (((eh t.buf q.i)).cell)) bL hs.hb rfl (aA mT (aB (v:=.int .i64 (((eh t.buf q.i)).n)) bL hs.hb rfl (bG TZ hs.p9 (H':=λ _=>fU a.q a.ov a.fv (iH m.mem ((eh t.buf q.i)).cell ((eh t.buf q.i)).n)) (Φ:=λ _ _=>True) (λ F2 eQ eA=>?_) ?_)))))))
   ·exact (C128 a.q a.ov a.fv m.mem F2 _ _ _ eQ (λ w' hc=>hu.mem _ (hK w' (eA w' hc).aF)) mu.mem tu).mono λ _ _ r=>r.mono λ _ _ h=>⟨trivial,h.2⟩
   rintro _ pP _ hs;refine aA jC (aB (v:=.int .i64 ((q).t)) bL hs.p8.hb rfl (aA nT (aB (v:=.int .i64 (((eh t.buf q.i)).cell)) bL hs.p1.hb rfl (aA mT (aB (v:=.int .i64 (((eh t.buf q.i)).n)) bL hs.p1.hb rfl (pop (xV _ _ _ _) (aI (x:=(⟨12,(q).t,((eh t.buf q.i)).cell,((eh t.buf q.i)).n,0⟩:cY)) hs.p7 eX rfl rfl (λ sQ hs=>aD eX hs.At ?_))))))));have hs:=(eH.shut (room:=m.room) (t:={t with buf:=mc t.buf q.i}) qH hs.p6.p6.p5.p6).p4;have hs:=St.sb (H:=pZ K m.room) (x:={t with buf:=mc t.buf q.i}) hs.p1 (by have:=(List.getElem?_eq_some_iff.1 ht).1; omega) wG dD
   have IP:ia m.mem (eh t.buf q.i)=iH m.mem (eh t.buf q.i).cell (eh t.buf q.i).n:=by unfold ia; rw [if_pos gh]
   have W8:pM q.t (eh t.buf q.i)=⟨12,q.t,(eh t.buf q.i).cell,(eh t.buf q.i).n,0⟩:=by unfold pM; rw [if_pos gh]
   have hs:=(show St w F (cD p (jT a (mv m t q))::fU a.q a.ov a.fv (mv m t q).mem::_) _ from by unfold mv; rw [IP]; exact hs.p7.p7.p4.p7);have hs:=eO.shut (m:=mv m t q) ⟨hu.ln,hu.cl,hu.rc,λ w hw=>by show ui _ _ (ia m.mem _) w; rw [IP]; first | exact hu.mem w hw | exact (hu.mem w hw).write | exact (hu.mem w hw).out⟩ hs;have hs:=(((hs.p1.drop.p1).drop).p1).drop;refine ⟨?_,hs.mut⟩;rw [W8]
  ·refine aH (aC (λ kG=>?_) (λ kG=>?_))
   ·refine aA jC (aB (v:=.int .i64 ((q).t)) bL hs.p7.hb rfl (pop (A6 _ _) (aI (x:=(⟨14,(q).t,0,0,0⟩:cY)) hs.p6 eX rfl rfl (λ vl hs=>aD eX hs.At ?_))));have hs:=(eH.shut (room:=m.room) (t:={t with buf:=mc t.buf q.i}) qH hs.p5.p5.p4.p5).p3;have hs:=St.sb (H:=pZ K m.room) (x:={t with buf:=mc t.buf q.i}) hs.p1 (by have:=(List.getElem?_eq_some_iff.1 ht).1; omega) wG dD;have IP:ia m.mem (eh t.buf q.i)=m.mem:=by unfold ia; rw [if_neg gh,if_pos kG]
    have W8:pM q.t (eh t.buf q.i)=⟨14,q.t,0,0,0⟩:=by unfold pM; rw [if_neg gh,if_pos kG]
    have hs:=(show St w F (cD p (jT a (mv m t q))::fU a.q a.ov a.fv (mv m t q).mem::_) _ from by unfold mv; rw [IP]; exact hs.p7.p7.p7.p7);have hs:=eO.shut (m:=mv m t q) ⟨hu.ln,hu.cl,hu.rc,λ w hw=>by show ui _ _ (ia m.mem _) w; rw [IP]; first | exact hu.mem w hw | exact (hu.mem w hw).write | exact (hu.mem w hw).out⟩ hs;have hs:=(((hs.p1.drop.p1).drop).p1).drop;refine ⟨?_,hs.mut⟩;rw [W8]
   ·refine aE (aA jD (have hs:=hs.drew;aB rY hs.p8.hb rfl (aA kX (aB (v:=.int .i64 (((eh t.buf q.i)).line)) bL hs.hb rfl (bG aew hs.p9 (H':=λ _=>fU a.q a.ov a.fv (vC m.mem ((eh t.buf q.i)).line)) (Φ:=λ _ _=>True) (λ F2 eQ eA=>?_) ?_)))))
    ·exact (C129 a.q a.ov a.fv m.mem F2 _ _ eQ (λ w' hc=>hu.mem _ (hK w' (eA w' hc).aF)) mu.mem tu).mono λ _ _ r=>r.mono λ _ _ h=>⟨trivial,h.2⟩
    rintro _ vm _ hs;refine aA jC (aB (v:=.int .i64 ((q).t)) bL hs.p8.hb rfl (aA kX (aB (v:=.int .i64 (((eh t.buf q.i)).line)) bL hs.p1.hb rfl (pop (r9 _ _ _) (aI (x:=(⟨13,(q).t,((eh t.buf q.i)).line,0,0⟩:cY)) hs.p7 eX rfl rfl (λ sd hs=>aD eX hs.At ?_))))));have hs:=(eH.shut (room:=m.room) (t:={t with buf:=mc t.buf q.i}) qH hs.p6.p6.p5.p6).p4;have hs:=St.sb (H:=pZ K m.room) (x:={t with buf:=mc t.buf q.i}) hs.p1 (by have:=(List.getElem?_eq_some_iff.1 ht).1; omega) wG dD;have IP:ia m.mem (eh t.buf q.i)=vC m.mem (eh t.buf q.i).line:=by unfold ia; rw [if_neg gh,if_neg kG]
    have W8:pM q.t (eh t.buf q.i)=⟨13,q.t,(eh t.buf q.i).line,0,0⟩:=by unfold pM; rw [if_neg gh,if_neg kG]
    have hs:=(show St w F (cD p (jT a (mv m t q))::fU a.q a.ov a.fv (mv m t q).mem::_) _ from by unfold mv; rw [IP]; exact hs.p7.p7.p4.p7);have hs:=eO.shut (m:=mv m t q) ⟨hu.ln,hu.cl,hu.rc,λ w hw=>by show ui _ _ (ia m.mem _) w; rw [IP]; first | exact hu.mem w hw | exact (hu.mem w hw).write | exact (hu.mem w hw).out⟩ hs;have hs:=(((hs.p1.drop.p1).drop).p1).drop;refine ⟨?_,hs.mut⟩;rw [W8]
 ·refine ⟨?_,?_⟩
  ·refine aN hs uL (λ ayj w6 hs=>?_);refine ⟨aG qR (hs.p8.hb.cell rfl),?_⟩;refine ⟨aG bL (hs.p7.hb.cell rfl),?_⟩;refine ⟨PI hs.p11 BN iM dD,?_⟩;refine ⟨aG rX (hs.p1.hb.cell rfl),?_⟩;refine ⟨aG bL (hs.p7.hb.cell rfl),?_⟩;refine bG aev hs.p2 (H':=λ _=>nH bp m.room (mc t.buf q.i)) (Φ:=λ v _=>v = .tuple #[Flat.val (eh t.buf q.i),.int .i64 (Ag t.buf q.i)]) (λ F2 eQ eA=>?_) ?_
   ·exact C127 bp m.room t.buf q.i F2 _ eQ (by omega)
   rintro _ w7 rfl hs;refine bE rfl (bE rfl (aI (x:=(eh t.buf q.i)) hs.p1 kW rfl rfl (λ w8 hs=>?_)));intro fB;refine aA px (aB (v:=.int .i64 (((eh t.buf q.i)).kind)) bL hs.hb rfl (aH (aC (λ gh=>?_) (λ gh=>?_))))
   ·refine aE (aA jD (have hs:=hs.drew;aB rY hs.p8.hb rfl (aA nT (aB (v:=.int .i64 (((eh t.buf q.i)).cell)) bL hs.hb rfl (aA mT (aB (v:=.int .i64 (((eh t.buf q.i)).n)) bL hs.hb rfl (bG TZ hs.p9 (H':=λ _=>fU a.q a.ov a.fv (iH m.mem ((eh t.buf q.i)).cell ((eh t.buf q.i)).n)) (Φ:=λ _ _=>True) (λ F2 eQ eA=>?_) ?_)))))))
    ·exact (C128 a.q a.ov a.fv m.mem F2 _ _ _ eQ (λ w' hc=>hu.mem _ (hK w' (eA w' hc).aF)) mu.mem tu).mono λ _ _ r=>r.mono λ _ _ h=>⟨trivial,h.2⟩
    rintro _ pP _ hs;refine aA jC (aB (v:=.int .i64 ((q).t)) bL hs.p8.hb rfl (aA nT (aB (v:=.int .i64 (((eh t.buf q.i)).cell)) bL hs.p1.hb rfl (aA mT (aB (v:=.int .i64 (((eh t.buf q.i)).n)) bL hs.p1.hb rfl (pop (xV _ _ _ _) (aI (x:=(⟨12,(q).t,((eh t.buf q.i)).cell,((eh t.buf q.i)).n,0⟩:cY)) hs.p7 eX rfl rfl (λ sQ hs=>aD eX hs.At ?_))))))));have hs:=(eH.shut (room:=m.room) (t:={t with buf:=mc t.buf q.i}) qH hs.p6.p6.p5.p6).p4;have hs:=St.sb (H:=pZ K m.room) (x:={t with buf:=mc t.buf q.i}) hs.p1 (by have:=(List.getElem?_eq_some_iff.1 ht).1; omega) wG dD
    have IP:ia m.mem (eh t.buf q.i)=iH m.mem (eh t.buf q.i).cell (eh t.buf q.i).n:=by unfold ia; rw [if_pos gh]
    have W8:pM q.t (eh t.buf q.i)=⟨12,q.t,(eh t.buf q.i).cell,(eh t.buf q.i).n,0⟩:=by unfold pM; rw [if_pos gh]
    have hs:=(show St w F (cD p (jT a (mv m t q))::fU a.q a.ov a.fv (mv m t q).mem::_) _ from by unfold mv; rw [IP]; exact hs.p7.p7.p4.p7);have hs:=eO.shut (m:=mv m t q) ⟨hu.ln,hu.cl,hu.rc,λ w hw=>by show ui _ _ (ia m.mem _) w; rw [IP]; first | exact hu.mem w hw | exact (hu.mem w hw).write | exact (hu.mem w hw).out⟩ hs;have hs:=(((hs.p1.drop.p1).drop).p1).drop;refine ⟨?_,hs.mut⟩;rw [W8]
   ·refine aH (aC (λ kG=>?_) (λ kG=>?_))
    ·refine aA jC (aB (v:=.int .i64 ((q).t)) bL hs.p7.hb rfl (pop (A6 _ _) (aI (x:=(⟨14,(q).t,0,0,0⟩:cY)) hs.p6 eX rfl rfl (λ vl hs=>aD eX hs.At ?_))));have hs:=(eH.shut (room:=m.room) (t:={t with buf:=mc t.buf q.i}) qH hs.p5.p5.p4.p5).p3;have hs:=St.sb (H:=pZ K m.room) (x:={t with buf:=mc t.buf q.i}) hs.p1 (by have:=(List.getElem?_eq_some_iff.1 ht).1; omega) wG dD;have IP:ia m.mem (eh t.buf q.i)=m.mem:=by unfold ia; rw [if_neg gh,if_pos kG]
     have W8:pM q.t (eh t.buf q.i)=⟨14,q.t,0,0,0⟩:=by unfold pM; rw [if_neg gh,if_pos kG]
     have hs:=(show St w F (cD p (jT a (mv m t q))::fU a.q a.ov a.fv (mv m t q).mem::_) _ from by unfold mv; rw [IP]; exact hs.p7.p7.p7.p7);have hs:=eO.shut (m:=mv m t q) ⟨hu.ln,hu.cl,hu.rc,λ w hw=>by show ui _ _ (ia m.mem _) w; rw [IP]; first | exact hu.mem w hw | exact (hu.mem w hw).write | exact (hu.mem w hw).out⟩ hs;have hs:=(((hs.p1.drop.p1).drop).p1).drop;refine ⟨?_,hs.mut⟩;rw [W8]
    ·refine aE (aA jD (have hs:=hs.drew;aB rY hs.p8.hb rfl (aA kX (aB (v:=.int .i64 (((eh t.buf q.i)).line)) bL hs.hb rfl (bG aew hs.p9 (H':=λ _=>fU a.q a.ov a.fv (vC m.mem ((eh t.buf q.i)).line)) (Φ:=λ _ _=>True) (λ F2 eQ eA=>?_) ?_)))))
     ·exact (C129 a.q a.ov a.fv m.mem F2 _ _ eQ (λ w' hc=>hu.mem _ (hK w' (eA w' hc).aF)) mu.mem tu).mono λ _ _ r=>r.mono λ _ _ h=>⟨trivial,h.2⟩
     rintro _ vm _ hs;refine aA jC (aB (v:=.int .i64 ((q).t)) bL hs.p8.hb rfl (aA kX (aB (v:=.int .i64 (((eh t.buf q.i)).line)) bL hs.p1.hb rfl (pop (r9 _ _ _) (aI (x:=(⟨13,(q).t,((eh t.buf q.i)).line,0,0⟩:cY)) hs.p7 eX rfl rfl (λ sd hs=>aD eX hs.At ?_))))));have hs:=(eH.shut (room:=m.room) (t:={t with buf:=mc t.buf q.i}) qH hs.p6.p6.p5.p6).p4;have hs:=St.sb (H:=pZ K m.room) (x:={t with buf:=mc t.buf q.i}) hs.p1 (by have:=(List.getElem?_eq_some_iff.1 ht).1; omega) wG dD;have IP:ia m.mem (eh t.buf q.i)=vC m.mem (eh t.buf q.i).line:=by unfold ia; rw [if_neg gh,if_neg kG]
     have W8:pM q.t (eh t.buf q.i)=⟨13,q.t,(eh t.buf q.i).line,0,0⟩:=by unfold pM; rw [if_neg gh,if_neg kG]
     have hs:=(show St w F (cD p (jT a (mv m t q))::fU a.q a.ov a.fv (mv m t q).mem::_) _ from by unfold mv; rw [IP]; exact hs.p7.p7.p4.p7);have hs:=eO.shut (m:=mv m t q) ⟨hu.ln,hu.cl,hu.rc,λ w hw=>by show ui _ _ (ia m.mem _) w; rw [IP]; first | exact hu.mem w hw | exact (hu.mem w hw).write | exact (hu.mem w hw).out⟩ hs;have hs:=(((hs.p1.drop.p1).drop).p1).drop;refine ⟨?_,hs.mut⟩;rw [W8]
  ·trivial
set_option maxHeartbeats 1000000 in
theorem C63 (K:World→Prop) (p:Nat) (m:gL) (N:Nat) (i:Int) (t:fM) (m2:gL) (ev:cY) (F:Nat→Prop) (w:World) (hF:(eO K p m).p w F) (hK:∀ w',ix F w w'→K w') (mu:rE m) (tu:MB m.mem 1000000) (h0:0≤i) (ht:m.l[i.toNat]? = some t) (sC:mF N m i=some (m2,ev)):CR 63 [(.pointer (some ⟨p,0,none⟩)),.int .i64 i] w (λ v w'=>v=Flat.val ev∧qj F (eO K p m2) w w'):=by
 have hs:=St.begin hF;obtain ⟨a,hu,hs⟩:=eO.open hs;have wG:=hs.p4.lg;have Cn:=List.mem_of_getElem? ht;have oC:=mu.th t Cn;have mz:=(List.getElem?_eq_some_iff.1 ht).1;refine ahq _ _ _ _ ?_;unfold S63;refine aN hs kL (λ Cj w1 hs=>aE (aA j9 (aB qR hs.p1.hb rfl ?_)));obtain ⟨pF,jQ⟩:=gx (a.ps) (i:=(i).toNat) (by omega);refine dT hs.p4 rZ (by omega) (by omega) (λ _ qZ=>gj hs.p4 BN qZ jQ ?_);have hs:=WZ hs.p5 jQ ht;obtain ⟨bp,gl,rg,cn,qH,hs⟩:=eH.open hs;refine aE (aA tI (aB bL hs.hb rfl (cS (aC (λ gr=>?_) (λ gr=>?_)))))
 ·refine aE (aA tI (aB bL hs.hb rfl (aE (aA nR (aV hs.p6 bL (eJ rfl) (rfl) (λ w2 hs=>aE (aA Dt (aV hs bL (eJ rfl) (rfl) (λ w3 hs=>aE (aA tI (aB bL hs.p1.hb rfl (pop (r9 _ _ _) ?_))))))))))));refine aI (x:=(⟨16,i,t.fault,0,0⟩:cY)) hs.p6 eX rfl rfl (λ w4 hs=>aD eX hs.At ?_);have hs:=St.sb (H:=pZ K m.room) (x:=t) (((eH.shut (room:=m.room) (t:=t) qH hs.p5.p5.p5.p5).p3).p1) (by have:=(List.getElem?_eq_some_iff.1 ht).1; omega) wG jQ;rw [uP ht] at hs;have hs:=eO.shut (m:={m with fault:=t.fault,mK:=i}) ⟨hu.ln,hu.cl,hu.rc,hu.mem⟩ hs.p5.p5.p5.p5
  have hs:=(hs.p1).drop;obtain ⟨rfl,rfl⟩:=Au sC ht gr;exact ⟨rfl,hs.mut⟩
 ·have hs:=eH.shut (room:=m.room) (t:=t) qH hs.p3.p3.p3.p3;obtain ⟨x,vt⟩:=Av sC ht gr;refine eu YR (C65 K pF.b m.room t _ (hs).has (hK _ hs.aF) oC) ?_;rintro v41 w5 hh;obtain ⟨x2,xv,ayk,hxv,rfl,he⟩:=hh.resolve_left (λ h=>by rw [vt] at h; cases h.1);obtain rfl:x=x2:=Option.some.inj (vt.symm.trans ayk);have hs:=hs.ext he;have hxm:=qG vt;obtain ⟨ge,gf,rfl,_,_⟩:=hxv _ (hK _ hs.aF);have hkd:=mu.st t Cn x vt (by omega);refine bE rfl (bE rfl (aN hs mr (λ N3 w6 hs=>have hs:=hs.enc (cs':=Flat.enc (⟨0,0,0,⟨none,0,0⟩,⟨none,0,0⟩,0⟩:bU)) rfl;aI (x:=(⟨x.kind,x.a,x.b,ge,gf,x.to⟩:bU)) hs lF rfl rfl (λ w7 hs=>wC hs (λ b_x44 w8 hs=>g9 hs Tryz.underlying211 oJ (by decide) (λ w9 hs=>g9 hs Tryz.underlying211 oJ (by decide) (λ pP hs=>g9 hs Tryz.underlying211 oJ (by decide) (λ sQ hs=>g9 hs Tryz.underlying211 oJ (by decide) (λ vl hs=>g9 hs Tryz.underlying211 oJ (by decide) (λ vm hs=>g9 hs Tryz.underlying211 oJ (by decide) (λ sd hs=>g9 hs Tryz.underlying211 oJ (by decide) (λ v7 hs=>g9 hs Tryz.underlying211 oJ (by decide) (λ yT hs=>?_)))))))))))))
  refine g9 hs Tryz.underlying211 oJ (by decide) (λ Ch hs=>aA jg (aB (v:=.int .i64 x.kind) bL hs.p1.hb rfl ?_));have hrl:=oC.rg;have Mr:=mu.lk;obtain ⟨g,aq5,vi,lQ⟩:=W6 K p m i.toNat pF t i x ge gf hkd oC.bl mu.mem tu (λ h=>by have:=mu.aqT t Cn x hxm.1 h; omega) (λ h=>by have:=mu.lkb t Cn x hxm.1 h; omega) (mu.lnb t Cn x hxm.1);refine ⟨_,oX hs.Ah Tryz.underlying211 oJ abl,?_⟩;rw [W7 aq5];refine aD lF hs.p1.At (have hs:=kx.shut (m:=m) (⟨hu,jQ,wG,by omega⟩) hs.p3.p8.p8.p8.p8;have hs:=St.join hs.p3;WQ (first:=[]) (cap:=[]) vi hs (H':=λ _=>sep (eH K pF.b (dY m t i x).1.room (dY m t i x).2.1) (kx K p (dY m t i x).1 i.toNat pF)) (Φ:=λ v _=>v=Flat.val (dY m t i x).2.2) (λ F2 eQ eA=>?_) ?_)
  ·exact lQ F2 _ eQ (λ w' hc=>hK w' (eA w' hc).aF)
  rintro _ Im rfl hs;refine aN hs kL (λ b_e9 Jp hs=>aI (x:=(dY m t i x).2.2) hs eX rfl rfl (λ Kz hs=>aA abe (aV hs bL (eJ rfl) (rfl) (λ Mu hs=>?_))));have hs:=hs.enc (cs':=Flat.enc ({ (dY m t i x).2.2 with t:=i}:cY)) rfl;refine ⟨_,?_,λ _ h=>h⟩;refine aE ?_;have hs:=hs.p1.split.p1;obtain ⟨a2,hx,hs⟩:=kx.open hs;refine aA nR (aB bL hs.hb rfl (aH (aC (λ kp=>?_) (λ kp=>?_))))
  ·have hs:=kx.shut (m:=(dY m t i x).1) (hx) hs.p4.p4.p4.p4.p4;obtain ⟨t2,hg,rfl,rfl⟩:=Aw sC ht gr vt kp;have sS:(dY m t i x).2.1.at_=t.at_:=CM;have Qi:=oC.code.len;have ayd:=oC.Tl;have hs:=hs.p1;obtain ⟨bp,gl,rg,cn,qH,hs⟩:=eH.open hs;refine aE (aA ke (aB bL hs.hb rfl (aO (by omega) (aE (aA ke (aV hs bL (eJ rfl) (rfl) (λ Qm hs=>?_)))))));have hs:=eH.shut (room:=(dY m t i x).1.room) (t:=(⟨(dY m t i x).2.1.code,((dY m t i x).2.1.at_+1),(dY m t i x).2.1.aK,(dY m t i x).2.1.counts,(dY m t i x).2.1.fault,(dY m t i x).2.1.e,(dY m t i x).2.1.f,(dY m t i x).2.1.buf⟩:fM)) qH hs.p3.p3.p3.p3
   have tg:=QI (m:=m) (t:=t) (i:=i) (x:=x) oC mu.rm.2;have W9:G7 { (dY m t i x).2.1 with at_:=(dY m t i x).2.1.at_+1}:=⟨tg.code,tg.rg,tg.cn,by dsimp only; omega,tg.bl⟩;refine bG aer hs (H':=λ _=>eH K pF.b (dY m t i x).1.room t2) (Φ:=λ _ _=>True) (λ F2 eQ eA=>?_) ?_
   ·exact (C122 K pF.b (dY m t i x).1.room { (dY m t i x).2.1 with at_:=(dY m t i x).2.1.at_+1} t2 N F2 _ eQ (λ w' hc=>hK w' (eA w' hc).aF) W9 hg).mono λ _ _ r=>r.mono λ _ _ h=>⟨trivial,h.2⟩
   rintro _ Tn _ hs;intro fB;refine aD eX hs.p2.At (aI (x:=({ (dY m t i x).2.2 with t:=i}:cY)) hs.p5 eX rfl rfl (λ R4 hs=>aD eX hs.At ?_));have hs:=((((((((LH hs.p2.p2).p1).drop).p1).drop).p1).drop).p1).drop;exact ⟨rfl,hs.mut⟩
  ·intro fB;refine aD eX hs.p6.At (aI (x:=({ (dY m t i x).2.2 with t:=i}:cY)) hs.p9 eX rfl rfl (λ R4 hs=>aD eX hs.At ?_));have hs:=((((LH ((kx.shut (m:=(dY m t i x).1) (hx) hs.p5.p5.p5.p5.p5).p2)).p1).drop).p1).drop;have hs:=((hs.p1.drop).p1).drop;obtain ⟨rfl,rfl⟩:=Ax sC ht gr vt kp;exact ⟨rfl,hs.mut⟩
end Go.Proofs.YtnjcingfdhjfkaaGreat
namespace Go.Fw
def CN (F:Nat→Prop) (w0 w':World):Prop:=∀ b,F b→w'.heap[b]? = w0.heap[b]?
section
variable {α σ:Type} [Flat σ] [D:cA α σ] {w w0:World} {A F:Nat→Prop} {L:List HP} {v:Value} {xs:List α} {ts us:List σ}
theorem St.aq6 {Φ:World→Prop} (hs:St w0 A (Fw.eS Φ::L) w):∃ F,St w0 A (Fw.eS (CN F w)::L) w∧∀ w',CN F w w'→Φ w':=by
 obtain ⟨U,F,U',g1,g2,g3,g4,g5⟩:=hs.sL
 exact ⟨F,⟨hs.aF,U,F,U',⟨λ w' h=>h,g1.2⟩,g2,g3,g4,g5⟩,λ w' h=>g1.1 w' h⟩
theorem CN.refl (F:Nat→Prop) (w:World):CN F w w:=λ _ _=>rfl
theorem LJ (inj:∀ x y:σ,Flat.enc x=Flat.enc y→x=y):∀ {ts us:List σ},ts.length=us.length→flat ts=flat us→ts=us
 | [],[],_,_=>rfl
 | t::ts,u::us,hl,h=>by
  rw [i0,i0] at h
  have:=List.append_inj h (by rw [Flat.len,Flat.len])
  rw [inj _ _ this.1,LJ inj (by simpa using hl) this.2]
 | [],_::_,hl,_=>by simp at hl
 | _::_,[],hl,_=>by simp at hl
theorem eF.func {S S':Nat→Prop} (inj:∀ x y:σ,Flat.enc x=Flat.enc y→x=y) (h:eF S w v ts) (h':eF S' w v us):ts=us:=by
 obtain ⟨a,cap,rfl,hc,h3⟩:=h
 obtain ⟨a',J2,hv,hc',h3'⟩:=h'
 simp only [Value.slice.injEq] at hv
 obtain ⟨rfl,hl,rfl⟩:=hv
 refine LJ inj hl (List.ext_getElem? λ j=>?_)
 have Ce:(flat ts).length=(flat us).length:=by rw [cQ,cQ,hl]
 by_cases hj:j<(flat ts).length
 ·have hj':j<(flat us).length:=by omega
  rcases h3 with ⟨rfl,_⟩ | ⟨b,o,rfl,_,h5⟩
  ·simp [j8] at hj
  ·rcases h3' with ⟨rfl,_⟩ | ⟨b',o',ha,_,h5'⟩
   ·simp [j8] at hj'
   ·simp only [Option.some.injEq,Addr.mk.injEq,and_true] at ha
    obtain ⟨rfl,rfl⟩:=ha
    have c1:=h5 j _ (List.getElem?_eq_getElem hj)
    have c2:=h5' j _ (List.getElem?_eq_getElem hj')
    unfold Cell at c1 c2
    rw [List.getElem?_eq_getElem hj,List.getElem?_eq_getElem hj']
    exact c1.symm.trans c2
 ·rw [List.getElem?_eq_none (by omega),List.getElem?_eq_none (by omega)]
theorem CN.rd (h:∀ w',CN F w w'→DL w' v xs) (hr:eF (λ _=>True) w v ts) (hn:ts.length=xs.length):∀ w',CN F w w'→eF (λ _=>True) w' v ts:=by
 intro w' hw
 have hr0:=hr
 obtain ⟨a,cap,rfl,hc,h3⟩:=hr
 rcases h3 with ⟨h3,h4⟩ | ⟨b,o,rfl,h4,h5⟩
 ·exact ⟨a,cap,rfl,hc,.inl ⟨h3,h4⟩⟩
 ·cases ts with
  | nil=>exact ⟨_,cap,rfl,hc,.inr ⟨b,o,rfl,λ h=>absurd rfl h,λ j c hj=>by simp [j8] at hj⟩⟩
  | cons t ts=>
   by_cases hF:F b
   ·exact ⟨_,cap,rfl,hc,.inr ⟨b,o,rfl,λ _=>trivial,λ j c hj=>(h5 j c hj).of_eq (hw b hF)⟩⟩
   ·exfalso
    have h6:DL (ChangeMaps.setBlock w b (.map #[] 0)) (.slice (some ⟨b,o,none⟩) (t::ts).length cap) xs:=h _ λ b' hb'=>by
     simp only [ChangeMaps.setBlock]; exact Array.getElem?_setIfInBounds_ne (λ e=>hF (by rw [e]; exact hb'))
    obtain ⟨us,⟨a',J2,hv,_,h7⟩,hul,_⟩:=h6
    simp only [Value.slice.injEq] at hv
    obtain ⟨rfl,hl,rfl⟩:=hv
    have zp:0<(flat us).length:=by rw [cQ,← hl]; exact Nat.mul_pos (by simp) (Flat.pos (α:=σ))
    rcases h7 with ⟨rfl,_⟩ | ⟨b',o',ha,_,h8⟩
    ·simp at hl
    ·simp only [Option.some.injEq,Addr.mk.injEq,and_true] at ha
     obtain ⟨rfl,rfl⟩:=ha
     have zo:=h8 0 _ (List.getElem?_eq_getElem zp)
     have hb:=(h5 0 _ (List.getElem?_eq_getElem (by rw [cQ]; exact Nat.mul_pos (by simp) (Flat.pos (α:=σ))))).lt
     unfold Cell World.cell? at zo
     dsimp only at zo
     rw [mf _ hb] at zo
     simp at zo
theorem CN.fix (inj:∀ x y:σ,Flat.enc x=Flat.enc y→x=y) (h:∀ w',CN F w w'→DL w' v xs):∃ ts:List σ,ts.length=xs.length∧∀ w',CN F w w'→eF (λ _=>True) w' v ts∧jc ts xs w':=by
 obtain ⟨ts,hr,hd⟩:=(h w (CN.refl F w)).open
 refine ⟨ts,hd.1,λ w' hw=>?_⟩
 have h1:=CN.rd h hr hd.1 w' hw
 obtain ⟨us,Yf,hd'⟩:=(h w' hw).open
 rw [eF.func inj h1 Yf] at *
 exact ⟨Yf,hd'⟩
end
section
variable {P:Program} {T:Nat} {cx cy:Bool} {a b:Int} {K:Value→Prop}
theorem Xa (h:0≤a - b∧a - b≤255) (k:K (.int .u8 (a - b))):cT P (iu .sub T cx cy (.int .u8 a) (.int .u8 b)) K:=
 ⟨_,(show pr P (iu .sub T cx cy (.int .u8 a) (.int .u8 b))=some (.int .u8 (a - b)) from by
  show some (Value.int .u8 (IntKind.u8.wrap (a - b)))=_
  have:IntKind.u8.wrap (a - b)=a - b:=by
   unfold IntKind.wrap; simp [IntKind.bits,IntKind.signed]; omega
  rw [this]),k⟩
theorem Su {src dst:TypeId} (h1:P.underlying src=some (.int .u8)) (h2:P.underlying dst=some (.int .i64)) (h:0≤a∧a≤255) (k:K (.int .i64 a)):cT P (convert src dst (.int .u8 a)) K:=by
 refine ⟨_,?_,k⟩
 unfold convert
 simp only [cM,cL h1,cL h2,Option.bind_some]
 show some (Value.int .i64 (IntKind.i64.wrap a))=_
 rw [IntWalk.i64_in _ (by omega)]
end
end Go.Fw
namespace Go.Proofs.YtnjcingfdhjfkaaGreat
open Go.Fw
def qa (c:fo):fM:=⟨c,0,List.replicate c.aK.toNat 0,List.replicate c.counts.toNat 0,0,0,0,[]⟩
def rF (N:Nat) (cs:List fo) (ts:List fM):Prop:=ts.length=cs.length∧∀ (j:Nat) (c:fo) (t:fM),cs[j]? = some c→ts[j]? = some t→sJ N (qa c)=some t
theorem I1 {c:fo} (h:Bx c):G7 (qa c):=⟨h,by have:=h.rb; simp [qa]; omega,by have:=h.cb; simp [qa]; omega,by simp [qa],by simp [qa]⟩
def aq7 (K:World→Prop) (Og:List cK) (cs:List fo):Prop:=Og.length=cs.length∧∀ (j:Nat) (cv:cK) (c:fo),Og[j]? = some cv→cs[j]? = some c→∃ gl:SV,cv=⟨c.aK,c.counts,gl⟩∧E2 K (Flat.val gl) c.l
theorem Oh (x y:cK) (h:Flat.enc x=Flat.enc y):x=y:=by
 obtain ⟨a,b,⟨c,d,e⟩⟩:=x; obtain ⟨a',b',⟨c',d',e'⟩⟩:=y; simp [Flat.enc] at h; simp [h]
theorem LK (x y:bU) (h:Flat.enc x=Flat.enc y):x=y:=by
 obtain ⟨a,b,c,⟨d,e,f⟩,⟨g,i,j⟩,k⟩:=x; obtain ⟨a',b',c',⟨d',e',f'⟩,⟨g',i',j'⟩,k'⟩:=y; simp [Flat.enc] at h; simp [h]
theorem LL {F:Nat→Prop} {w1:World} {gl:Value} {l:List aW} (h:∀ w',CN F w1 w'→DL w' gl l):E2 (CN F w1) gl l:=by
 obtain ⟨ts,_,h2⟩:=CN.fix LK h; exact ⟨ts,h2⟩
def mw (u:il) (room:Int):gL:=⟨u,room,WR u.lines u.stays u.dC,[],[],0,0,0⟩
def mL (m:gL) (ts:List fM):gL:={m with locks:=List.replicate m.u.locks.toNat (-1),l:=ts}
theorem Xb {w w0:World} {A:Nat→Prop} {L:List HP} {p q:Nat} {u:il} {room:Int} {sh:dM} {ov fv:SV}
  (hs:St w0 A (cD p (jT ⟨sh.lines,sh.dC,sh.threads,sh.recover.l,sh.cC,q,Flat.val ov,Flat.val fv,.slice none 0 0,.slice none 0 0,[]⟩ (mw u room)) ::
   fU q (Flat.val ov) (Flat.val fv) (WR u.lines u.stays u.dC)::bK (Flat.val ov) (u.lines.take u.stays.toNat)::bK (Flat.val fv) u.dC::eS (λ w=>cA.dr w sh u)::L) w) :
  ∃ (K:World→Prop) (Og:List cK),St w0 A (eO K p (mw u room)::eS K::L) w∧(∀ w,K w→eF (λ _=>True) w (Flat.val sh.threads) Og)∧aq7 K Og u.threads:=by
 have h1:=hs.p2.freeze
 have h2:=(h1.p3.freeze).p1.fL
 have h3:=(h2.p3.p1.fL)
 obtain ⟨F,h4,h5⟩:=h3.aq6
 have hd:∀ w',CN F w w'→cA.dr w' sh u:=λ w' h=>by have:=h5 w' h; first | exact this.1 | exact this.2 | exact this.1.1 | exact this.2.2
 have hov:∀ w',CN F w w'→eF (λ _=>True) w' (Flat.val ov) (u.lines.take u.stays.toNat):=λ w' h=>by have:=h5 w' h; first | exact this.1.1 | exact this.1.2 | exact this.2.1 | exact this.2.2
 have hfv:∀ w',CN F w w'→eF (λ _=>True) w' (Flat.val fv) u.dC:=λ w' h=>by have:=h5 w' h; first | exact this.1.1 | exact this.1.2 | exact this.2.1 | exact this.2.2
 have hth:∀ w',CN F w w'→DL w' (Flat.val sh.threads) u.threads:=λ w' h=>by obtain ⟨_,_,_,_,_,e,q1,q2,q3,q4,q5⟩:=hd w' h; rw [e]; exact q3
 obtain ⟨Og,Qi,Sf⟩:=CN.fix Oh hth
 refine ⟨CN F w,Og,?_,λ w' h=>(Sf w' h).1,Qi,λ j cv c h1 h2=>?_⟩
 ·have h6:St w0 A (iy (pZ (CN F w) room) [] []::_) w:=h4.new (Ext.refl w) (F:=bD) (λ _ h=>h) λ _ h=>h.elim
  have h7:=((h6.fX (α:=Ptr)).fX (α:=Int))
  refine eO.shut (a:=⟨sh.lines,sh.dC,sh.threads,sh.recover.l,sh.cC,q,Flat.val ov,Flat.val fv,.slice none 0 0,.slice none 0 0,[]⟩) (m:=mw u room) ⟨λ w' h=>?_,λ w' h=>?_,LL λ w' h=>?_,λ w' h=>⟨hov w' h,hfv w' h⟩⟩ h7.p5.p5
  ·obtain ⟨_,_,_,_,_,e,q1,q2,q3,q4,q5⟩:=hd w' h; rw [e]; exact DL.flat q1
  ·obtain ⟨_,_,_,_,_,e,q1,q2,q3,q4,q5⟩:=hd w' h; rw [e]; exact q5
  ·obtain ⟨_,_,_,_,_,e,q1,q2,q3,q4,q5⟩:=hd w' h; rw [e]
   obtain ⟨g,e2,q6⟩:=q4; rw [e2]; exact q6
 ·have hh:∀ w',CN F w w'→cA.dr w' cv c:=λ w' h=>(Sf w' h).2.2 j cv c h1 h2
  obtain ⟨gl,e,_⟩:=hh w (CN.refl F w)
  subst e
  exact ⟨gl,rfl,LL λ w' h=>by obtain ⟨gl',e,h6⟩:=hh w' h; cases e; exact h6⟩
structure QJ (N:Nat) (u:il) (nf:List fM):Prop where
 b:rF N u.threads nf
 co:∀ c∈u.threads,Bx c
 len:u.lines.length=u.dC.length
 l20:u.lines.length≤20
 st:0≤u.stays∧u.stays≤u.lines.length
 ln:∀ (k:Nat) (n:Int),(k:Int)<u.stays→u.lines[k]? = some n→(n=lq u.lines k∨(0<k∧n=lq u.lines k - 1))∧-10≤n∧n≤100
 lk:0≤u.locks∧u.locks≤1000
set_option maxHeartbeats 1000000 in
theorem C55 (K:World→Prop) (p:Nat) (m:gL) (N:Nat) (LM:List fo) (nf:List fM) (lv:Value) (Og:List cK) (F:Nat→Prop) (w:World) (hF:(eO K p m).p w F) (hK:∀ w',ix F w w'→K w') (hrm:1≤m.room∧m.room≤16) (Mr:0≤m.u.locks∧m.u.locks≤1000) (hl:∀ w',ix F w w'→eF (λ _=>True) w' lv Og) (Sf:aq7 K Og LM) (aym:∀ c∈LM,Bx c) (hb:rF N LM nf) (hn:LM.length≤1000):CR 55 [(.pointer (some ⟨p,0,none⟩)),lv] w (λ v w'=>v = .tuple #[]∧qj F (eO K p (mL m nf)) w w'):=by
 have hs:=St.begin hF;obtain ⟨a,hu,hs⟩:=eO.open hs;have wG:=hs.p4.lg;have hcvl:=Sf.1;refine ahi _ _ _ _ ?_;unfold S55;refine aE (aA j9 (aV hs qR (eJ rfl) (rfl) (λ w1 hs=>aE (aA nQ (aV hs et (eJ rfl) (rfl) (λ w2 hs=>aE (aA tH (aA CA (aB bL hs.hb rfl ?_)))))))));have hs:=(((hs.p3.drop.p3.drop.p2.drop.fX (α:=Int)).p2).p1).p2;refine ⟨λ mm x w'=>∃ (k:Nat) (HE:Value),x = .int .i64 (k:Int)∧mm=m.u.locks.toNat - k∧k≤m.u.locks.toNat∧St w F [cD p (jT {a with lk:=HE,ll:=.slice none 0 0} m),bK HE (List.replicate k (-1:Int)),fU a.q a.ov a.fv m.mem] w',⟨_,0,_,rfl,rfl,Nat.zero_le _,hs⟩,?_⟩
 rintro mm _ w3 ⟨k,HE,rfl,rfl,Tg,hs⟩ fB;refine aR (aC (λ gr=>?_) (λ gr=>?_))
 ·refine aE (aA nQ (aB et hs.hb rfl (bW (([-1]:List Int)) hs ei rfl rfl (eJ rfl) (λ PV w4 hs=>?_))));have Ek:=(hs).fI;refine cN hs.p2 ei Ek (by rw [List.length_replicate,List.length_singleton]; omega) (by decide) (λ aq8 w5 hs=>have hs:=hs.p1.drop;aE (aA nQ (aV hs.p1 et (eJ rfl) ((hs).fI.one) (λ w6 hs=>aO (by omega) ?_))));have hs:=hs.p2.p2.p2;exact ⟨_,by omega,k+1,aq8,rfl,rfl,by omega,by rw [List.replicate_succ']; exact hs⟩
 ·refine aJ A5 (hl _ hs.aF) ?_;have hs:=hs.p1;rw [show k=m.u.locks.toNat from by omega] at hs;have hs:=((((((hs.Kw (H:=pZ K m.room)).fX (α:=Ptr)).p4).p3).p3).p3).p4;refine ⟨λ mm x w'=>∃ (j:Nat) (Xc:Value) (ps:List Ptr),x = .int .i64 (j:Int)∧mm=Og.length - j∧j≤Og.length∧St w F [cD p (jT {a with lk:=HE,ll:=Xc} m),bK Xc ps,iy (pZ K m.room) ps (nf.take j),bK HE (List.replicate m.u.locks.toNat (-1:Int)),fU a.q a.ov a.fv m.mem] w',⟨_,0,_,_,rfl,rfl,Nat.zero_le _,hs⟩,?_⟩;rintro mm _ w7 ⟨j,Xc,ps,rfl,rfl,hj1,hs⟩ jw;refine aR (aC (λ jr=>?_) (λ jr=>?_))
  ·refine ⟨_,?_,λ _ h=>h⟩;obtain ⟨afT,EO⟩:=gx (Og) (i:=((j:Int)).toNat) (by omega);refine aQ A5 (hl _ hs.aF) (by omega) EO (λ _ tW=>?_);obtain ⟨c,hc⟩:∃ c,LM[j]? = some c:=⟨_,List.getElem?_eq_getElem (by have:=Sf.1; omega)⟩;obtain ⟨t1,ht1⟩:∃ t,nf[j]? = some t:=⟨_,List.getElem?_eq_getElem (by have:=Sf.1; have:=hb.1; omega)⟩;have hg:=hb.2 j c t1 hc ht1;obtain ⟨gl,HV,aq9⟩:=Sf.2 j _ _ EO hc;subst HV;have hco:=aym c (List.mem_of_getElem? hc);have Ys:=hco.rb;have hcb:=hco.cb;refine aD pQ (tW) (aN hs HZ (λ ajt w8 hs=>have hs:=hs.enc (cs':=Flat.enc (⟨0,0,⟨none,0,0⟩⟩:cK)) rfl;aI (x:=(⟨c.aK,c.counts,gl⟩:cK)) hs pQ rfl rfl (λ w9 hs=>aE (aA Ua (aB bL hs.p1.hb rfl (eu amD (C52 m.room _) ?_))))))
   rintro v43 pP hh;obtain ⟨_,_,b52,rfl,bY⟩:=hh.resolve_left (λ h=>by omega);have hs:=hs.made bY;refine bE rfl (bE rfl ?_);refine ⟨λ t8 w'=>∃ tb,t8 = .pointer (some ⟨tb,0,none⟩)∧St w F [eH K tb m.room (qa c),cD ajt (Flat.enc (⟨c.aK,c.counts,gl⟩:cK)),cD p (jT {a with lk:=HE,ll:=Xc} m),bK Xc ps,iy (pZ K m.room) ps (nf.take j),bK HE (List.replicate m.u.locks.toNat (-1:Int)),fU a.q a.ov a.fv m.mem] w',?_,?_⟩
   ·have hs:=hs.drew;refine aD pQ hs.p1.At (aA wT (aB (v:=.int .i64 c.aK) bL hs.p1.hb rfl (aA Cz (aB (v:=.int .i64 c.counts) bL hs.p1.hb rfl ?_))));refine ⟨?_,?_⟩
    ·refine vN (0:Int) hs ei BM (by omega) (by omega) (by decide) (λ Vw sQ hs=>?_);refine ⟨fh pQ hs.p2.At,?_⟩;refine ⟨aG bL (hs.p2.hb.cell rfl),?_⟩;refine vN (0:Int) hs ei BM (by omega) (by omega) (by decide) (λ s_x53 vl hs=>?_);refine ⟨fh pQ hs.p3.At,?_⟩;refine ⟨aG bL (hs.p3.hb.cell rfl),?_⟩;obtain ⟨ayn,rfl⟩:=(hs.p1).fQ;obtain ⟨Oi,rfl⟩:=(hs).fQ;refine pop (vU _ _ _ _ _ _ _ _ _ _ _ _) (lR hs (λ b_x55 vm hs=>?_));have hs:=hs.p9.p9.p9.p9.p9.p9.p7.p8.p9.p9;exact ⟨_,rfl,eH.shut (t:=qa c) aq9 hs⟩
    ·refine ⟨?_,?_⟩
     ·refine vN (0:Int) hs ei BM (by omega) (by omega) (by decide) (λ atp sd hs=>?_);refine ⟨fh pQ hs.p2.At,?_⟩;refine ⟨aG bL (hs.p2.hb.cell rfl),?_⟩;refine vN (0:Int) hs ei BM (by omega) (by omega) (by decide) (λ atq v7 hs=>?_);refine ⟨fh pQ hs.p3.At,?_⟩;refine ⟨aG bL (hs.p3.hb.cell rfl),?_⟩;obtain ⟨ara,rfl⟩:=(hs).fQ;obtain ⟨arb,rfl⟩:=(hs.p1).fQ;refine pop (vU _ _ _ _ _ _ _ _ _ _ _ _) (lR hs (λ atr yT hs=>?_));have hs:=hs.p9.p9.p9.p9.p9.p9.p8.p8.p9.p9;exact ⟨_,rfl,eH.shut (t:=qa c) aq9 hs⟩
     ·trivial
   ·rintro _ Ch ⟨tb,rfl,hs⟩ oN;refine bG aer hs (H':=λ _=>eH K tb m.room t1) (Φ:=λ _ _=>True) (λ F2 eQ eA=>?_) ?_
    ·exact (C122 K tb m.room (qa c) t1 N F2 _ eQ (λ w' hc=>hK w' (eA w' hc).aF) (I1 hco) hg).mono λ _ _ r=>r.mono λ _ _ h=>⟨trivial,h.2⟩
    rintro _ Im _ hs;refine aE (aA j9 ?_);have vi:=(hs.p4).lg;refine aB qR hs.p2.hb rfl (bW ([(⟨tb⟩:Ptr)]) hs rZ rfl rfl (eJ rfl) (λ arc Jp hs=>?_));have akb:=(hs).fI;refine cN hs.p4 rZ akb (by rw [List.length_take] at vi; simp; omega) (by decide) (λ age Kz hs=>have hs:=hs.p1.drop;aE (aA j9 (aV hs.p3 qR (eJ rfl) ((hs).fI.one) (λ Mu hs=>?_))));intro GJ;refine aO (by omega) ?_;have hs:=(((((St.DN (H:=pZ K m.room) (p:=⟨tb⟩) (x:=t1) hs.p2.p4).p3).drop).p4).p4).p2;have hs:=hs.p4.p4;exact ⟨_,by omega,j+1,age,ps++[⟨tb⟩],rfl,rfl,by omega,by rw [← gX (k:=j) ht1]; exact hs⟩
  ·have hs:=hs.p2.p2.p3.p4.p4;rw [List.take_of_length_le (by have:=hb.1; omega)] at hs;exact ⟨rfl,(eO.shut (m:=mL m nf) (a:={a with lk:=HE,ll:=Xc,ps:=ps}) ⟨hu.ln,hu.cl,hu.rc,hu.mem⟩ hs).mut⟩
def iT (m:gL) (q:ep):Option (List Int):=if q.kind=3∧q.t=0∧q.i=0∧m.fault=0 then jA m.mem q.cut else none
def yM (m:gL) (pX:List Int):gL:={m with mem:=yI m.mem pX,er:=m.er+1}
def CO (N:Nat) (m:gL) (q:ep):Option (gL × cY × Int):=match iT m q with
 | some pX=>(sJ N (qa m.u.recover)).map λ t=>(mL (yM m pX) [t],⟨15,0,0,As q.cut q.cut.length,0⟩,0)
 | none=>if (dU m).any (jM q)=true then
   (if q.kind=2 then (m.l[q.t.toNat]?).map λ t=>(mv m t q,pM q.t (eh t.buf q.i),0) else (mF N m q.t).map λ r=>(r.1,r.2,0))
  else some (m,⟨0,0,0,0,0⟩,13)
section
variable {N:Nat} {m m2:gL} {q:ep} {ev:cY} {e:Int} {pX:List Int}
theorem uu (h:CO N m q=some (m2,ev,e)) (hc:iT m q=some pX):∃ t,sJ N (qa m.u.recover)=some t∧m2=mL (yM m pX) [t]∧ev=⟨15,0,0,As q.cut q.cut.length,0⟩∧e=0:=by
 unfold CO at h; rw [hc] at h; dsimp only at h
 cases hg:sJ N (qa m.u.recover) with
 | none=>rw [hg] at h; cases h
 | some t=>rw [hg] at h; cases h; exact ⟨t,rfl,rfl,rfl,rfl⟩
theorem qA (h:CO N m q=some (m2,ev,e)) (hc:iT m q=none) (ha:¬ (dU m).any (jM q)=true):m2=m∧ev=⟨0,0,0,0,0⟩∧e=13:=by
 unfold CO at h; rw [hc] at h; dsimp only at h; rw [if_neg ha] at h
 cases h; exact ⟨rfl,rfl,rfl⟩
theorem qB {t:fM} (h:CO N m q=some (m2,ev,e)) (hc:iT m q=none) (ha:(dU m).any (jM q)=true) (hk:q.kind=2) (ht:m.l[q.t.toNat]? = some t):m2=mv m t q∧ev=pM q.t (eh t.buf q.i)∧e=0:=by
 unfold CO at h; rw [hc] at h; dsimp only at h; rw [if_pos ha,if_pos hk,ht] at h
 cases h; exact ⟨rfl,rfl,rfl⟩
theorem ow (h:CO N m q=some (m2,ev,e)) (hc:iT m q=none) (ha:(dU m).any (jM q)=true) (hk:¬ q.kind=2):mF N m q.t=some (m2,ev)∧e=0:=by
 unfold CO at h; rw [hc] at h; dsimp only at h; rw [if_pos ha,if_neg hk] at h
 cases hs:mF N m q.t with
 | none=>rw [hs] at h; cases h
 | some r=>rw [hs] at h; cases h; exact ⟨rfl,rfl⟩
theorem wH {k:Nat} {x:ep} (h:x∈kT m k):∃ i t,i<k∧m.l[i]? = some t∧x∈ti m i t:=by
 unfold kT at h
 rw [List.mem_flatMap] at h
 obtain ⟨i,hi,hx⟩:=h
 cases ht:m.l[i]? with
 | none=>rw [ht] at hx; cases hx
 | some t=>rw [ht] at hx; exact ⟨i,t,List.mem_range.1 hi,ht,hx⟩
theorem LN {i:Nat} {t:fM} {x:ep} (h:x∈ti m i t):x.t=i:=by
 unfold ti at h
 rw [List.mem_append] at h
 rcases h with h | h
 ·split at h
  ·simp at h; rw [h]
  ·cases h
 ·rw [List.mem_map] at h; obtain ⟨_,_,rfl⟩:=h; rfl
theorem tm (h:(dU m).any (jM q)=true):0≤q.t∧∃ t,m.l[q.t.toNat]? = some t:=by
 rw [List.any_eq_true] at h
 obtain ⟨x,hx,hs⟩:=h
 unfold dU at hx
 split at hx
 ·cases hx
 ·obtain ⟨i,t,_,ht,AS⟩:=wH hx
  have h1:=LN AS
  unfold jM at hs
  simp only [Bool.and_eq_true,decide_eq_true_eq] at hs
  have:q.t=(i:Int):=by omega
  rw [this]; exact ⟨by omega,t,ht⟩
theorem oZ (h:rE m):(dU m).length≤1001000:=by
 unfold dU; split
 ·simp
 ·exact Nat.le_trans (wF h _) (Nat.mul_le_mul_right 1001 h.tl)
end
def Xd (m:Mem) (cut:List Int) (v:Value) (m2:Mem):Prop:=(jA m cut=none∧m2=m∧v = .int .i64 1)∨∃ pX,jA m cut=some pX∧m2=yI m pX∧v = .int .i64 0
theorem Sv {m:Mem} {cut:List Int} {v:Value} {p:Nat} {ov fv:Value} {F:Nat→Prop} {w w':World}
  (h:(jA m cut=none∧v = .int .i64 1∧qj F (fU p ov fv m) w w')∨∃ pX,jA m cut=some pX∧v = .int .i64 0∧qj F (fU p ov fv (yI m pX)) w w') :
  True∧qj F (tS λ m2=>fact (Xd m cut v m2) (fU p ov fv m2)) w w':=by
 refine ⟨trivial,?_⟩
 rcases h with ⟨h1,h2,F',h3,h4,h5⟩ | ⟨pX,h1,h2,F',h3,h4,h5⟩
 ·exact ⟨F',⟨m,.inl ⟨h1,rfl,h2⟩,h3⟩,h4,h5⟩
 ·exact ⟨F',⟨yI m pX,.inr ⟨pX,h1,rfl,h2⟩,h3⟩,h4,h5⟩
set_option maxHeartbeats 1000000 in
theorem C15 (u:il) (uv:dM) (room:Int) (N:Nat) (nf:List fM) (w:World) (hu:cA.dr w uv u) (hz:UZ u) (hn:nt u=true→QJ N u nf):CR 15 [Flat.val uv,.int .i64 room] w (λ v w'=>(nt u=false∧v = .tuple #[.pointer none,.int .i64 8]∧Ext w w')∨(nt u=true∧(room<1∨16<room)∧v = .tuple #[.pointer none,.int .i64 1]∧Ext w w')∨(nt u=true∧1≤room∧room≤16∧∃ K p,v = .tuple #[.pointer (some ⟨p,0,none⟩),.int .i64 0]∧lW (sep (eO K p (mL (mw u room) nf)) (eS K)) w w')):=by
 obtain ⟨iD,gG,eZ,su,fi,rfl,iE,jm,iY,jL,kR⟩:=hu;obtain ⟨dK,rfl,ig⟩:=jL;have hs:=St.start w;refine agL _ _ _ _ ?_;unfold S15;refine dE hs (λ b_u2 w1 hs=>aD tG hs.At (aZ auw hs (C51 u _ _ ⟨iD,gG,eZ,(⟨((u).recover).aK,((u).recover).counts,dK⟩:cK),fi,rfl,(iE.ext hs.aF),(jm.ext hs.aF),(iY.ext hs.aF),⟨dK,rfl,(ig.ext hs.aF)⟩,(kR.ext hs.aF)⟩ hz) (λ w2 he hs=>bZ (aX (λ gP=>?_) (λ gP=>?_)))))
 ·exact .inl ⟨by simpa using gP,rfl,hs.drop.aF⟩
 ·have AR:=hn (by simpa using gP);refine eu amD (C52 room _) ?_;rintro v_x14 w3 akc
  rcases akc with ⟨Ys,rfl,he⟩ | ⟨hr1,Gh,b52,rfl,bY⟩
  ·have hs:=hs.ext he;refine bE rfl (bE rfl (cS (gD (by decide) ?_)));exact .inr (.inl ⟨by simpa using gP,Ys,rfl,hs.drop.aF⟩)
  ·have hs:=hs.made bY;refine bE rfl (bE rfl (cS (fT (by decide) (aD tG hs.p1.At (eu auy (C53 u _ _ ⟨iD,gG,eZ,(⟨((u).recover).aK,((u).recover).counts,dK⟩:cK),fi,rfl,(iE.ext hs.aF),(jm.ext hs.aF),(iY.ext hs.aF),⟨dK,rfl,(ig.ext hs.aF)⟩,(kR.ext hs.aF)⟩ hz) ?_)))));rintro _ w4 ⟨Xe,rfl,bY⟩;have hs:=hs.made bY;refine pop (MZ _ _ _ _ _ _ _ _ _ _ _ _ _ _ _ _ _ _ _ _) (lR hs (λ BR w5 hs=>aA mn (aB et hs.p3.hb rfl ?_)));have ard:=DL.flat (iE);refine aA o9 (aB (v:=.int .i64 ((u).stays)) bL hs.p3.hb rfl (aA wU (aB et hs.p3.hb rfl ?_)))
   have are:=DL.flat (jm);refine eu auz (C54 u.lines u.dC u.stays _ _ _ (ard.ext hs.aF) (are.ext hs.aF) AR.len AR.l20 AR.st AR.ln) ?_;rintro v33 w6 ⟨q,ov,fv,rfl,bY⟩;have hs:=((hs.made bY).split).p1.split;refine bE rfl (bE rfl (aE (aA jD (aV hs.p3 rY (eJ rfl) (rfl) (λ w7 hs=>aE (aA tH (aA rV (aB FF hs.hb rfl ?_))))))));obtain ⟨s1,s2,s3,s4,s5,hsh,q1,q2,q3,q4,q5⟩:=(hs.p4).eS;obtain ⟨g4,hs4,_⟩:=q4;subst hs4;subst hsh;have hs:=hs.p4.p2.p4.p4.p4;obtain ⟨K,Og,hs,ayo,ayp⟩:=Xb (room:=room) (sh:=(⟨s1,u.stays,s2,u.locks,s3,⟨u.recover.aK,u.recover.counts,g4⟩,s5⟩:dM)) hs
   refine bG amE hs (H':=λ _=>eO K BR (mL (mw u room) nf)) (Φ:=λ _ _=>True) (λ F2 eQ eA=>?_) ?_
   ·exact (C55 K BR (mw u room) N u.threads nf _ Og F2 _ eQ (λ w' hc=>(eA w' hc).eS) ⟨hr1,Gh⟩ AR.lk (λ w' hc=>ayo w' (eA w' hc).eS) ayp AR.co AR.b hz.threads).mono λ _ _ r=>r.mono λ _ _ h=>⟨trivial,h.2⟩
   rintro _ w8 _ hs;have hs:=((hs.p2.drop.p2.drop).p1).p1;exact .inr (.inr ⟨by simpa using gP,hr1,Gh,K,BR,rfl,(St.join hs).fresh⟩)
set_option maxHeartbeats 2000000 in
theorem C17 (K:World→Prop) (p:Nat) (m:gL) (N:Nat) (q:ep) (gc:SV) (m2:gL) (ev:cY) (e:Int) (F:Nat→Prop) (w:World) (hF:(eO K p m).p w F) (hK:∀ w',ix F w w'→K w') (mu:rE m) (tu:MB m.mem 1000000) (hcb:0≤m.er∧m.er≤1000000) (ayq:Bx m.u.recover) (Mr:0≤m.u.locks∧m.u.locks≤1000) (Ay:∀ w',ix F w w'→eF (λ _=>True) w' (Flat.val gc) q.cut) (hql:q.cut.length≤1000) (hd:CO N m q=some (m2,ev,e)):CR 17 [(.pointer (some ⟨p,0,none⟩)),Flat.val (⟨q.kind,q.t,q.i,gc⟩:dJ)] w (λ v w'=>v = .tuple #[Flat.val ev,.int .i64 e]∧qj F (eO K p m2) w w'):=by
 have hs:=St.begin hF;obtain ⟨a,hu,hs⟩:=eO.open hs;have wG:=hs.p4.lg;refine agN _ _ _ _ ?_;unfold S17;refine dE (x:=(⟨q.kind,q.t,q.i,gc⟩:dJ)) hs (λ xG w1 hs=>aN hs kL (λ Cj w2 hs=>?_));refine ⟨_,?_,λ _ _ h=>h⟩;refine aA pa (have hs:=hs.drew;aB (v:=.int .i64 q.kind) bL hs.p1.hb rfl (aH (aC (λ gu=>?_) (λ gu=>?_))))
 ·refine aA jC (aB (v:=.int .i64 q.t) bL hs.p1.hb rfl (aH (aC (λ kF=>?_) (λ kF=>?_))))
  ·refine aA wW (aB (v:=.int .i64 q.i) bL hs.p1.hb rfl (aH (aC (λ gd=>?_) (λ gd=>?_))))
   ·refine aE (aA nR (aB bL hs.p2.hb rfl (aH (aC (λ fP=>?_) (λ fP=>?_)))))
    ·refine aE (aA jD (aB rY hs.p2.hb rfl (aA rW (aB (v:=Flat.val (gc:SV)) et hs.p1.hb rfl (bG auC hs.p3 (H':=λ v=>tS λ m2=>fact (Xd m.mem q.cut v m2) (fU a.q a.ov a.fv m2)) (Φ:=λ _ _=>True) (λ F2 eQ eA=>?_) ?_)))))
     ·exact (C58 a.q a.ov a.fv m.mem F2 q.cut _ _ eQ (λ w' hc=>hu.mem _ (hK w' (eA w' hc).aF)) mu.mem tu (λ w' hc=>Ay w' (eA w' hc).aF) hql).mono λ _ _ r=>r.mono λ _ _ h=>Sv h
     rintro v34 w3 _ Az;obtain ⟨m2c,AA⟩:=Az.eV
     clear Az
     obtain ⟨hcf,CP⟩:=AA.oB
     clear AA
     rcases hcf with ⟨him,rfl,rfl⟩ | ⟨pX,him,rfl,rfl⟩
     ·have hs:=CP;have CE:iT m q=none:=by unfold iT; rw [if_pos ⟨gu,kF,gd,fP⟩]; exact him
      refine aH ?_;intro fB;refine fT (by decide) (have hs:=eO.shut (m:=m) hu hs.p6.p6.p6.p3.p6;dB FC hs (C16 K p m _ hs.has (hK _ hs.aF) (λ w2 e=>hK _ (hs.aF.then e)) mu) (λ x58 pP bY hs=>?_));have Wj:=hs.p3.At;have Km:n7 PG _ (.func (.func 60) [].toArray [.pointer (some ⟨xG,0,none⟩)].toArray) (λ _:ep=>True) (jM q):=
 ⟨60,[],_,rfl,TQ,λ sx y w1 e1 Mx _=>C60 y q sx xG (⟨q.kind,q.t,q.i,gc⟩:dJ) w1 Mx (Wj.ext e1) ⟨gc,rfl,DL.fq (Ay _ (hs.aF.then e1))⟩⟩
      refine aZ TR hs (C61 _ _ _ (λ _=>True) _ _ (hs).dl Km (λ _ _=>trivial) (by have:=oZ mu; omega)) (λ sQ he hs=>bZ (aX (λ kp=>?_) (λ kp=>?_)))
      ·refine pop (Dy) (aI (x:=(⟨0,0,0,0,0⟩:cY)) hs.p2 eX rfl rfl (λ vl hs=>aD eX hs.At ?_));have hs:=((((hs.drop)).drop).p1).drop;obtain ⟨rfl,rfl,rfl⟩:=qA hd CE (by simpa using kp);exact ⟨rfl,hs.mut⟩
      ·have qJ:(dU m).any (jM q)=true:=by simpa using kp
       obtain ⟨h0,t,ht⟩:=tm qJ;refine aA pa (aB (v:=.int .i64 q.kind) bL hs.p3.hb rfl (aH (aC (λ m8=>?_) (λ m8=>?_))))
       ·refine aD mq hs.p3.At ?_;obtain ⟨rfl,rfl,rfl⟩:=qB hd CE qJ m8 ht;have hs:=hs.p1;refine bG TS hs (H':=λ _=>eO K p (mv m t q)) (Φ:=λ v _=>v=Flat.val (pM q.t (eh t.buf q.i))) (λ F2 eQ eA=>?_) ?_
        ·exact C62 K p m q (⟨q.kind,q.t,q.i,gc⟩:dJ) t F2 _ eQ (λ w' hc=>hK w' (eA w' hc).aF) mu tu ⟨gc,rfl,DL.fq (Ay _ hs.aF)⟩ h0 ht
        rintro _ vm rfl hs;refine aI (x:=(pM q.t (eh t.buf q.i))) hs.p2 eX rfl rfl (λ sd hs=>aD eX hs.At ?_);have hs:=(((hs.drop.p1).drop).p1).drop;exact ⟨rfl,hs.mut⟩
       ·refine aA jC (aB (v:=.int .i64 q.t) bL hs.p3.hb rfl ?_);obtain ⟨sC,rfl⟩:=ow hd CE qJ m8;have hs:=hs.p1;refine bG TT hs (H':=λ _=>eO K p m2) (Φ:=λ v _=>v=Flat.val ev) (λ F2 eQ eA=>?_) ?_
        ·exact C63 K p m N q.t t m2 ev F2 _ eQ (λ w' hc=>hK w' (eA w' hc).aF) mu tu h0 ht sC
        rintro _ v7 rfl hs;refine aI (x:=ev) hs.p2 eX rfl rfl (λ yT hs=>aD eX hs.At ?_);have hs:=(((hs.drop.p1).drop).p1).drop;exact ⟨rfl,hs.mut⟩
     ·have hs:=CP;have CE:iT m q=some pX:=by unfold iT; rw [if_pos ⟨gu,kF,gd,fP⟩]; exact him
      refine aH ?_;intro fB;refine gD (by decide) (aE (aA Ds (aB bL hs.p3.hb rfl (aO (by omega) (aE (aA Ds (aV hs.p3 bL (eJ rfl) (rfl) (λ w5 hs=>aE (aA tH (aA zw (uN (⟨m.u.recover.aK,m.u.recover.counts,a.rcl⟩:cK) pQ hs.hb rfl (bW ([(⟨m.u.recover.aK,m.u.recover.counts,a.rcl⟩:cK)]) hs A5 rfl rfl (eJ rfl) (λ Vw w6 hs=>?_)))))))))))));have hs:=eO.shut (m:=(yM m pX)) ⟨hu.ln,hu.cl,hu.rc,hu.mem⟩ hs.p7.p7.p7.p5.p5;obtain ⟨t2,hg,rfl,rfl,rfl⟩:=uu hd CE;have hs:=hs.p1.p1;refine bG amE hs (H':=λ _=>eO K p (mL (yM m pX) [t2])) (Φ:=λ _ _=>True) (λ F2 eQ eA=>?_) ?_
      ·exact (C55 K p (yM m pX) N [m.u.recover] [t2] _ [(⟨m.u.recover.aK,m.u.recover.counts,a.rcl⟩:cK)] F2 _ eQ (λ w' hc=>hK w' (eA w' hc).aF) mu.rm Mr (λ w' hc=>(eA w' hc).fI) ⟨rfl,λ j cv c h1 h2=>by cases j with | zero=>(simp at h1 h2; subst h1 h2; exact ⟨a.rcl,rfl,hu.rc⟩) | succ j=>simp at h1⟩ (by simpa using ayq) ⟨rfl,λ j c t h1 h2=>by cases j with | zero=>(simp at h1 h2; subst h1 h2; exact hg) | succ j=>simp at h1⟩ (by simp)).mono λ _ _ r=>r.mono λ _ _ h=>⟨trivial,h.2⟩
      rintro _ w7 _ hs;refine aA rW (aB (v:=Flat.val (gc:SV)) et hs.p3.hb rfl (aZ auD hs (C59 _ q.cut _ (Ay _ hs.aF) (by omega)) (λ w8 he hs=>pop (tQ _ _) (aI (x:=(⟨15,0,0,(As q.cut q.cut.length),0⟩:cY)) hs.p2 eX rfl rfl (λ w9 hs=>aD eX hs.At ?_)))));have hs:=(((hs.drop.p1).drop).p1).drop;exact ⟨rfl,hs.mut⟩
    ·have CE:iT m q=none:=by unfold iT; rw [if_neg (by exact λ h=>fP h.2.2.2)]
     intro fB;refine fx (have hs:=eO.shut (m:=m) hu hs.p6.p6.p6.p6.p6;dB FC hs (C16 K p m _ hs.has (hK _ hs.aF) (λ w2 e=>hK _ (hs.aF.then e)) mu) (λ x58 pP bY hs=>?_));have Wj:=hs.p3.At;have Km:n7 PG _ (.func (.func 60) [].toArray [.pointer (some ⟨xG,0,none⟩)].toArray) (λ _:ep=>True) (jM q):=
 ⟨60,[],_,rfl,TQ,λ sx y w1 e1 Mx _=>C60 y q sx xG (⟨q.kind,q.t,q.i,gc⟩:dJ) w1 Mx (Wj.ext e1) ⟨gc,rfl,DL.fq (Ay _ (hs.aF.then e1))⟩⟩
     refine aZ TR hs (C61 _ _ _ (λ _=>True) _ _ (hs).dl Km (λ _ _=>trivial) (by have:=oZ mu; omega)) (λ sQ he hs=>bZ (aX (λ kp=>?_) (λ kp=>?_)))
     ·refine pop (Dy) (aI (x:=(⟨0,0,0,0,0⟩:cY)) hs.p2 eX rfl rfl (λ vl hs=>aD eX hs.At ?_));have hs:=((((hs.drop)).drop).p1).drop;obtain ⟨rfl,rfl,rfl⟩:=qA hd CE (by simpa using kp);exact ⟨rfl,hs.mut⟩
     ·have qJ:(dU m).any (jM q)=true:=by simpa using kp
      obtain ⟨h0,t,ht⟩:=tm qJ;refine aA pa (aB (v:=.int .i64 q.kind) bL hs.p3.hb rfl (aH (aC (λ m8=>?_) (λ m8=>?_))))
      ·refine aD mq hs.p3.At ?_;obtain ⟨rfl,rfl,rfl⟩:=qB hd CE qJ m8 ht;have hs:=hs.p1;refine bG TS hs (H':=λ _=>eO K p (mv m t q)) (Φ:=λ v _=>v=Flat.val (pM q.t (eh t.buf q.i))) (λ F2 eQ eA=>?_) ?_
       ·exact C62 K p m q (⟨q.kind,q.t,q.i,gc⟩:dJ) t F2 _ eQ (λ w' hc=>hK w' (eA w' hc).aF) mu tu ⟨gc,rfl,DL.fq (Ay _ hs.aF)⟩ h0 ht
       rintro _ vm rfl hs;refine aI (x:=(pM q.t (eh t.buf q.i))) hs.p2 eX rfl rfl (λ sd hs=>aD eX hs.At ?_);have hs:=(((hs.drop.p1).drop).p1).drop;exact ⟨rfl,hs.mut⟩
      ·refine aA jC (aB (v:=.int .i64 q.t) bL hs.p3.hb rfl ?_);obtain ⟨sC,rfl⟩:=ow hd CE qJ m8;have hs:=hs.p1;refine bG TT hs (H':=λ _=>eO K p m2) (Φ:=λ v _=>v=Flat.val ev) (λ F2 eQ eA=>?_) ?_
       ·exact C63 K p m N q.t t m2 ev F2 _ eQ (λ w' hc=>hK w' (eA w' hc).aF) mu tu h0 ht sC
       rintro _ v7 rfl hs;refine aI (x:=ev) hs.p2 eX rfl rfl (λ yT hs=>aD eX hs.At ?_);have hs:=(((hs.drop.p1).drop).p1).drop;exact ⟨rfl,hs.mut⟩
   ·have CE:iT m q=none:=by unfold iT; rw [if_neg (by exact λ h=>gd h.2.2.1)]
    intro fB;refine fx (have hs:=eO.shut (m:=m) hu hs.p6.p6.p6.p6.p6;dB FC hs (C16 K p m _ hs.has (hK _ hs.aF) (λ w2 e=>hK _ (hs.aF.then e)) mu) (λ x58 pP bY hs=>?_));have Wj:=hs.p3.At;have Km:n7 PG _ (.func (.func 60) [].toArray [.pointer (some ⟨xG,0,none⟩)].toArray) (λ _:ep=>True) (jM q):=
 ⟨60,[],_,rfl,TQ,λ sx y w1 e1 Mx _=>C60 y q sx xG (⟨q.kind,q.t,q.i,gc⟩:dJ) w1 Mx (Wj.ext e1) ⟨gc,rfl,DL.fq (Ay _ (hs.aF.then e1))⟩⟩
    refine aZ TR hs (C61 _ _ _ (λ _=>True) _ _ (hs).dl Km (λ _ _=>trivial) (by have:=oZ mu; omega)) (λ sQ he hs=>bZ (aX (λ kp=>?_) (λ kp=>?_)))
    ·refine pop (Dy) (aI (x:=(⟨0,0,0,0,0⟩:cY)) hs.p2 eX rfl rfl (λ vl hs=>aD eX hs.At ?_));have hs:=((((hs.drop)).drop).p1).drop;obtain ⟨rfl,rfl,rfl⟩:=qA hd CE (by simpa using kp);exact ⟨rfl,hs.mut⟩
    ·have qJ:(dU m).any (jM q)=true:=by simpa using kp
     obtain ⟨h0,t,ht⟩:=tm qJ;refine aA pa (aB (v:=.int .i64 q.kind) bL hs.p3.hb rfl (aH (aC (λ m8=>?_) (λ m8=>?_))))
     ·refine aD mq hs.p3.At ?_;obtain ⟨rfl,rfl,rfl⟩:=qB hd CE qJ m8 ht;have hs:=hs.p1;refine bG TS hs (H':=λ _=>eO K p (mv m t q)) (Φ:=λ v _=>v=Flat.val (pM q.t (eh t.buf q.i))) (λ F2 eQ eA=>?_) ?_
      ·exact C62 K p m q (⟨q.kind,q.t,q.i,gc⟩:dJ) t F2 _ eQ (λ w' hc=>hK w' (eA w' hc).aF) mu tu ⟨gc,rfl,DL.fq (Ay _ hs.aF)⟩ h0 ht
      rintro _ vm rfl hs;refine aI (x:=(pM q.t (eh t.buf q.i))) hs.p2 eX rfl rfl (λ sd hs=>aD eX hs.At ?_);have hs:=(((hs.drop.p1).drop).p1).drop;exact ⟨rfl,hs.mut⟩
     ·refine aA jC (aB (v:=.int .i64 q.t) bL hs.p3.hb rfl ?_);obtain ⟨sC,rfl⟩:=ow hd CE qJ m8;have hs:=hs.p1;refine bG TT hs (H':=λ _=>eO K p m2) (Φ:=λ v _=>v=Flat.val ev) (λ F2 eQ eA=>?_) ?_
      ·exact C63 K p m N q.t t m2 ev F2 _ eQ (λ w' hc=>hK w' (eA w' hc).aF) mu tu h0 ht sC
      rintro _ v7 rfl hs;refine aI (x:=ev) hs.p2 eX rfl rfl (λ yT hs=>aD eX hs.At ?_);have hs:=(((hs.drop.p1).drop).p1).drop;exact ⟨rfl,hs.mut⟩
  ·have CE:iT m q=none:=by unfold iT; rw [if_neg (by exact λ h=>kF h.2.1)]
   intro fB;refine fx (have hs:=eO.shut (m:=m) hu hs.p6.p6.p6.p6.p6;dB FC hs (C16 K p m _ hs.has (hK _ hs.aF) (λ w2 e=>hK _ (hs.aF.then e)) mu) (λ x58 pP bY hs=>?_));have Wj:=hs.p3.At;have Km:n7 PG _ (.func (.func 60) [].toArray [.pointer (some ⟨xG,0,none⟩)].toArray) (λ _:ep=>True) (jM q):=
 ⟨60,[],_,rfl,TQ,λ sx y w1 e1 Mx _=>C60 y q sx xG (⟨q.kind,q.t,q.i,gc⟩:dJ) w1 Mx (Wj.ext e1) ⟨gc,rfl,DL.fq (Ay _ (hs.aF.then e1))⟩⟩
   refine aZ TR hs (C61 _ _ _ (λ _=>True) _ _ (hs).dl Km (λ _ _=>trivial) (by have:=oZ mu; omega)) (λ sQ he hs=>bZ (aX (λ kp=>?_) (λ kp=>?_)))
   ·refine pop (Dy) (aI (x:=(⟨0,0,0,0,0⟩:cY)) hs.p2 eX rfl rfl (λ vl hs=>aD eX hs.At ?_));have hs:=((((hs.drop)).drop).p1).drop;obtain ⟨rfl,rfl,rfl⟩:=qA hd CE (by simpa using kp);exact ⟨rfl,hs.mut⟩
   ·have qJ:(dU m).any (jM q)=true:=by simpa using kp
    obtain ⟨h0,t,ht⟩:=tm qJ;refine aA pa (aB (v:=.int .i64 q.kind) bL hs.p3.hb rfl (aH (aC (λ m8=>?_) (λ m8=>?_))))
    ·refine aD mq hs.p3.At ?_;obtain ⟨rfl,rfl,rfl⟩:=qB hd CE qJ m8 ht;have hs:=hs.p1;refine bG TS hs (H':=λ _=>eO K p (mv m t q)) (Φ:=λ v _=>v=Flat.val (pM q.t (eh t.buf q.i))) (λ F2 eQ eA=>?_) ?_
     ·exact C62 K p m q (⟨q.kind,q.t,q.i,gc⟩:dJ) t F2 _ eQ (λ w' hc=>hK w' (eA w' hc).aF) mu tu ⟨gc,rfl,DL.fq (Ay _ hs.aF)⟩ h0 ht
     rintro _ vm rfl hs;refine aI (x:=(pM q.t (eh t.buf q.i))) hs.p2 eX rfl rfl (λ sd hs=>aD eX hs.At ?_);have hs:=(((hs.drop.p1).drop).p1).drop;exact ⟨rfl,hs.mut⟩
    ·refine aA jC (aB (v:=.int .i64 q.t) bL hs.p3.hb rfl ?_);obtain ⟨sC,rfl⟩:=ow hd CE qJ m8;have hs:=hs.p1;refine bG TT hs (H':=λ _=>eO K p m2) (Φ:=λ v _=>v=Flat.val ev) (λ F2 eQ eA=>?_) ?_
     ·exact C63 K p m N q.t t m2 ev F2 _ eQ (λ w' hc=>hK w' (eA w' hc).aF) mu tu h0 ht sC
     rintro _ v7 rfl hs;refine aI (x:=ev) hs.p2 eX rfl rfl (λ yT hs=>aD eX hs.At ?_);have hs:=(((hs.drop.p1).drop).p1).drop;exact ⟨rfl,hs.mut⟩
 ·have CE:iT m q=none:=by unfold iT; rw [if_neg (by exact λ h=>gu h.1)]
  intro fB;refine fx (have hs:=eO.shut (m:=m) hu hs.p6.p6.p6.p6.p6;dB FC hs (C16 K p m _ hs.has (hK _ hs.aF) (λ w2 e=>hK _ (hs.aF.then e)) mu) (λ x58 pP bY hs=>?_));have Wj:=hs.p3.At;have Km:n7 PG _ (.func (.func 60) [].toArray [.pointer (some ⟨xG,0,none⟩)].toArray) (λ _:ep=>True) (jM q):=
 ⟨60,[],_,rfl,TQ,λ sx y w1 e1 Mx _=>C60 y q sx xG (⟨q.kind,q.t,q.i,gc⟩:dJ) w1 Mx (Wj.ext e1) ⟨gc,rfl,DL.fq (Ay _ (hs.aF.then e1))⟩⟩
  refine aZ TR hs (C61 _ _ _ (λ _=>True) _ _ (hs).dl Km (λ _ _=>trivial) (by have:=oZ mu; omega)) (λ sQ he hs=>bZ (aX (λ kp=>?_) (λ kp=>?_)))
  ·refine pop (Dy) (aI (x:=(⟨0,0,0,0,0⟩:cY)) hs.p2 eX rfl rfl (λ vl hs=>aD eX hs.At ?_));have hs:=((((hs.drop)).drop).p1).drop;obtain ⟨rfl,rfl,rfl⟩:=qA hd CE (by simpa using kp);exact ⟨rfl,hs.mut⟩
  ·have qJ:(dU m).any (jM q)=true:=by simpa using kp
   obtain ⟨h0,t,ht⟩:=tm qJ;refine aA pa (aB (v:=.int .i64 q.kind) bL hs.p3.hb rfl (aH (aC (λ m8=>?_) (λ m8=>?_))))
   ·refine aD mq hs.p3.At ?_;obtain ⟨rfl,rfl,rfl⟩:=qB hd CE qJ m8 ht;have hs:=hs.p1;refine bG TS hs (H':=λ _=>eO K p (mv m t q)) (Φ:=λ v _=>v=Flat.val (pM q.t (eh t.buf q.i))) (λ F2 eQ eA=>?_) ?_
    ·exact C62 K p m q (⟨q.kind,q.t,q.i,gc⟩:dJ) t F2 _ eQ (λ w' hc=>hK w' (eA w' hc).aF) mu tu ⟨gc,rfl,DL.fq (Ay _ hs.aF)⟩ h0 ht
    rintro _ vm rfl hs;refine aI (x:=(pM q.t (eh t.buf q.i))) hs.p2 eX rfl rfl (λ sd hs=>aD eX hs.At ?_);have hs:=(((hs.drop.p1).drop).p1).drop;exact ⟨rfl,hs.mut⟩
   ·refine aA jC (aB (v:=.int .i64 q.t) bL hs.p3.hb rfl ?_);obtain ⟨sC,rfl⟩:=ow hd CE qJ m8;have hs:=hs.p1;refine bG TT hs (H':=λ _=>eO K p m2) (Φ:=λ v _=>v=Flat.val ev) (λ F2 eQ eA=>?_) ?_
    ·exact C63 K p m N q.t t m2 ev F2 _ eQ (λ w' hc=>hK w' (eA w' hc).aF) mu tu h0 ht sC
    rintro _ v7 rfl hs;refine aI (x:=ev) hs.p2 eX rfl rfl (λ yT hs=>aD eX hs.At ?_);have hs:=(((hs.drop.p1).drop).p1).drop;exact ⟨rfl,hs.mut⟩
def B6 (t:fM):Bool:=(gS t).isNone && decide (t.buf.length=0)
def uw (m:gL):Bool:=decide (m.fault=0) && !(List.range m.l.length).any λ i=>match m.l[i]? with | some t=>!B6 t | none=>false
def yN (m:gL):Bool:=decide (m.fault=0) && (!uw m && decide (((dU m).length:Int)=0))
def ph (m:gL):iz:=⟨m.er,m.fault,m.mK,uw m,yN m⟩
def yO (m:gL) (l:List nk):Bool:=decide ((runM l (m.mem.l.take m.u.stays.toNat)).2=0) && decide ((runM l (m.mem.l.take m.u.stays.toNat)).1≠0)
def CQ (m:gL):List Bool:=m.u.cC.map (yO m)
theorem tB.ext {w w':World} {b:Nat} {cs:List Value} (h:tB w b cs) (e:Ext w w'):tB w' b cs:=h.of_eq (e.cD b h.lt λ h=>h)
theorem Oj {a:MA} {m:gL} (h1:rO a.lk=true) (h2:rO a.ll=true):∀ v∈jT a m,rO v=true:=by
 intro v hv
 simp only [List.mem_cons,List.not_mem_nil,or_false] at hv
 rcases hv with rfl | rfl | rfl | rfl | rfl | rfl | rfl | rfl | rfl | rfl | rfl | rfl | rfl | rfl | rfl | rfl <;> first | rfl | exact h1 | exact h2
theorem Ok {bp:Nat} {c:fo} {gl rg cn:Value} {x f e g:Int} (h1:rO gl=true) (h2:rO rg=true) (h3:rO cn=true) :
  ∀ v∈[Value.pointer (some ⟨bp,0,none⟩),.int .i64 c.aK,.int .i64 c.counts,gl,.int .i64 x,rg,cn,.int .i64 f,.int .i64 e,.int .i64 g],rO v=true:=by
 intro v hv
 simp only [List.mem_cons,List.not_mem_nil,or_false] at hv
 rcases hv with rfl | rfl | rfl | rfl | rfl | rfl | rfl | rfl | rfl | rfl <;> first | rfl | exact h1 | exact h2 | exact h3
theorem Hd {n k:Nat} (h:k<n):(List.range n)[k]? = some k:=List.getElem?_range h
theorem C64 (K:World→Prop) (p:Nat) (room:Int) (t:fM) (w:World) (hh:Has (eH K p room t) w) (vD:∀ w',Ext w w'→K w') (oC:G7 t):CR 64 [(.pointer (some ⟨p,0,none⟩))] w (λ v w'=>v = .bool (B6 t)∧Ext w w'):=by
 obtain ⟨bp,gl,rg,cn,_,pY,hB,BV,hcn⟩:=eH.rd hh;have ct0:=pY.cell (o:=0) rfl;have hs:=St.start w;refine ahr _ _ _ ?_;unfold S64;refine eu YR (C65 K p room t _ (hh.ext hs.aF) (vD _ hs.aF) oC) ?_;rintro v_x7 w1 arf
 rcases arf with ⟨vt,rfl,he⟩ | ⟨x,xv,vt,hxv,rfl,he⟩
 ·have hs:=hs.ext he;refine bE rfl (bE rfl (aN hs mr (λ KZ w2 hs=>have hs:=hs.enc (cs':=Flat.enc (⟨0,0,0,⟨none,0,0⟩,⟨none,0,0⟩,0⟩:bU)) rfl;aI (x:=(⟨0,0,0,⟨none,0,0⟩,⟨none,0,0⟩,0⟩:bU)) hs lF rfl rfl (λ w3 hs=>?_))));refine ⟨_,?_,λ _ _ h=>h⟩;refine bZ (nN (aZ ahD hs (C66 K p room t _ (hh.ext hs.aF) oC.bl) (λ w4 he hs=>?_)));intro fB;refine ⟨vb ?_,by first | exact hs.aF | exact hs.drop.aF⟩;unfold B6;rw [vt]
  rfl
 ·have hs:=hs.ext he;obtain ⟨ge,gf,rfl,_,_⟩:=hxv _ (vD _ hs.aF);refine bE rfl (bE rfl (aN hs mr (λ KZ w2 hs=>have hs:=hs.enc (cs':=Flat.enc (⟨0,0,0,⟨none,0,0⟩,⟨none,0,0⟩,0⟩:bU)) rfl;aI (x:=(⟨x.kind,x.a,x.b,ge,gf,x.to⟩:bU)) hs lF rfl rfl (λ w3 hs=>?_))));refine ⟨_,?_,λ _ _ h=>h⟩;refine bZ (fx ?_);intro fB;refine ⟨vb ?_,by first | exact hs.aF | exact hs.drop.aF⟩;unfold B6;rw [vt]
  rfl
theorem C68 (K:World→Prop) (p:Nat) (room:Int) (t:fM) (b:Nat) (w:World) (hh:Has (eH K p room t) w) (vD:∀ w',Ext w w'→K w') (oC:G7 t) (hc:Cell w b 0 (Of 64)):CR 68 [(.pointer (some ⟨p,0,none⟩)),(.pointer (some ⟨b,0,none⟩))] w (λ v w'=>v = .bool (!B6 t)∧Ext w w'):=by
 have hs:=St.start w;refine ahv _ _ _ _ ?_;unfold S68;refine cG aeU (hc.ext hs.aF) (ga (first:=[]) (cap:=[]) auE (C64 K p room t _ (hh.ext hs.aF) (λ w2 e=>vD _ (Ext.trans hs.aF e)) oC) ?_);rintro _ w1 ⟨rfl,he⟩;have hs:=hs.ext he;refine bZ ?_;exact ⟨rfl,hs.aF⟩
theorem C136 (sv:Value) (ps:List Ptr) (g0:Nat) (first cap:List Value) (g:Nat→Bool) (w:World) (hL:eF (λ _=>True) w sv ps) (vi:Plain PG g0) (lQ:∀ (i:Nat) (s:Ptr) (w1:World),ps[i]? = some s→Ext w w1→Calls PG g0 (first++[Flat.val s]++cap).toArray w1 (qf λ v w2=>v = .bool (g i)∧Ext w1 w2)) (hn:ps.length≤1073741824):CR 136 [sv,(.func (.func g0) first.toArray cap.toArray)] w (λ v w'=>v = .int .i64 (uQ g (List.range ps.length))∧Ext w w'):=by
 have hs:=St.start w;refine Zt _ _ _ _ ?_;unfold S136;refine aJ rZ (hL.ext hs.aF) ?_;refine ⟨λ m x w1=>∃ k:Nat,x = .int .i64 (k:Int)∧m=ps.length - k∧k≤ps.length∧(∀ y∈(List.range ps.length).take k,g y=false)∧St w bD [] w1,⟨_,0,rfl,rfl,Nat.zero_le _,by simp,hs⟩,?_⟩;rintro m _ w1 ⟨k,rfl,rfl,hk,fR,hs⟩ fB;refine aR (aC (λ gu=>?_) (λ gu=>?_))
 ·obtain ⟨jk,dD⟩:=gx (ps) (i:=((k:Int)).toNat) (by omega);refine aQ rZ hL (by omega) dD (λ _ iM=>aD BN (iM.ext hs.aF) (ga vi (lQ k jk w1 dD hs.aF) ?_));rintro _ w2 ⟨rfl,he⟩;have hs:=hs.ext he;refine aX (λ eB=>?_) (λ eB=>?_)
  ·exact ⟨congrArg (Value.int .i64) (pd fR (Hd (by omega)) eB).symm,hs.aF⟩
  ·refine aO (by omega) ?_;exact ⟨_,by omega,k+1,rfl,rfl,by omega,eD fR (Hd (by omega)) eB,hs⟩
 ·exact ⟨congrArg (Value.int .i64) (kn (by rw [List.take_of_length_le (by rw [List.length_range]; omega)] at fR; exact fR)).symm,hs.aF⟩
theorem C67 (sv:Value) (ps:List Ptr) (g0:Nat) (first cap:List Value) (g:Nat→Bool) (w:World) (hL:eF (λ _=>True) w sv ps) (vi:Plain PG g0) (lQ:∀ (i:Nat) (s:Ptr) (w1:World),ps[i]? = some s→Ext w w1→Calls PG g0 (first++[Flat.val s]++cap).toArray w1 (qf λ v w2=>v = .bool (g i)∧Ext w1 w2)) (hn:ps.length≤1073741824):CR 67 [sv,(.func (.func g0) first.toArray cap.toArray)] w (λ v w'=>v = .bool ((List.range ps.length).any g)∧Ext w w'):=by
 have hs:=St.start w;refine ahu _ _ _ _ ?_;unfold S67;refine aZ amY hs (C136 _ ps g0 first cap g _ (hL.ext hs.aF) vi (λ i s2 w2 h e=>lQ i s2 w2 h (Ext.trans hs.aF e)) (by omega)) (λ w1 he hs=>dG ?_);exact ⟨vb (n8 _ _),hs.aF⟩
theorem C18 (K:World→Prop) (p:Nat) (m:gL) (w:World) (hm:Has (eO K p m) w) (hw:K w) (vD:∀ w',Ext w w'→K w') (mu:rE m):CR 18 [(.pointer (some ⟨p,0,none⟩))] w (λ v w'=>v=Flat.val (ph m)∧Ext w w'):=by
 obtain ⟨a,hr⟩:=eO.rd hm hw;have cm8:=hr.b.cell (o:=8) rfl;have cm0:=hr.b.cell (o:=0) rfl;have Yr:=hr.b.cell (o:=1) rfl;have cm3:=hr.b.cell (o:=3) rfl;have cm9:=hr.b.cell (o:=9) rfl;have Co:=hr.b.cell (o:=10) rfl;have E3:=hr.b.cell (o:=11) rfl;have By:=hr.b.cell (o:=12) rfl;have FX:=hr.b.cell (o:=13) rfl;have Ar:=hr.b.cell (o:=14) rfl;have FY:=hr.b.cell (o:=15) rfl;have hs:=St.start w;refine agO _ _ _ ?_;unfold S18;refine aN hs Dr (λ lZ w1 hs=>ym hs abi rfl (λ I2 w2 hs=>aV hs aeU (eJ rfl) (rfl) (λ w3 hs=>aE (aA Ds (have hs:=hs.drew;cG bL (FX.ext hs.aF) (aE (aA nR (cG bL (Ar.ext hs.aF) (aE (aA Dt (cG bL (FY.ext hs.aF) (pop (Ki _ _ _) ?_))))))))))))
 refine aN hs Dr (λ arh w4 hs=>?_);refine ⟨aG bL (FX.ext hs.aF),?_⟩;refine ⟨aG bL (Ar.ext hs.aF),?_⟩;refine ⟨aG bL (FY.ext hs.aF),?_⟩;refine aI (x:=(⟨m.er,m.fault,m.mK,false,false⟩:iz)) hs Dq rfl rfl (λ w5 hs=>?_);refine ⟨λ w'=>St w bD [cD arh (Flat.enc (⟨m.er,m.fault,m.mK,uw m,false⟩:iz)),cD I2 [Of 64],cD lZ (Flat.enc (⟨0,0,0,false,false⟩:iz))] w',?_,?_⟩
 ·refine aE (aA nR (cG bL (Ar.ext hs.aF) (aH (aC (λ iL=>?_) (λ iL=>?_)))))
  ·refine aE (aA j9 (cG qR (By.ext hs.aF) ?_));refine aZ auF hs (C67 _ a.ps 68 [] [.pointer (some ⟨I2,0,none⟩)] (λ i=>match m.l[i]? with | some t=>!B6 t | none=>false) _ (hr.ll.ext hs.aF) auG (λ i s2 w2 h e=>by
  obtain ⟨t,ht⟩:∃ t,m.l[i]? = some t:=⟨_,List.getElem?_eq_getElem (by have:=(List.getElem?_eq_some_iff.1 h).1; have:=hr.len; omega)⟩;rw [ht]
  exact C68 K s2.b m.room t I2 w2 ((hr.th i s2 t h ht).ext (Ext.trans hs.aF e)) (λ w3 e3=>vD _ (Ext.trans (Ext.trans hs.aF e) e3)) (mu.th t (List.mem_of_getElem? ht)) ((hs.p1.hb.cell rfl).ext e)) (by have:=hr.len; have:=mu.tl; omega)) (λ w6 he hs=>?_)
   refine bZ (aA H0 (aV hs Ti (eJ rfl) (rfl) (λ w7 hs=>?_)));have hs:=hs.enc (cs':=Flat.enc ({ (⟨m.er,m.fault,m.mK,false,false⟩:iz) with done:=(!((List.range a.ps.length).any (λ i=>match m.l[i]? with | some t=>!B6 t | none=>false)))}:iz)) rfl;have hs:=hs.p2.p2.p2;have hdm:uw m = !((List.range a.ps.length).any (λ i=>match m.l[i]? with | some t=>!B6 t | none=>false)):=by unfold uw; rw [decide_eq_true iL,hr.len]; rfl
   rw [hdm];exact hs
  ·refine aA H0 (aV hs Ti (eJ rfl) (rfl) (λ w8 hs=>?_));have hs:=hs.enc (cs':=Flat.enc ({ (⟨m.er,m.fault,m.mK,false,false⟩:iz) with done:=false}:iz)) rfl;have hs:=hs.p2.p2.p2;have hdm:uw m=false:=by unfold uw; rw [decide_eq_false iL]; rfl
   rw [hdm];exact hs
 ·intro w9 hs fB;refine ⟨λ w'=>St w bD [cD arh (Flat.enc (ph m)),cD lZ (Flat.enc (⟨0,0,0,false,false⟩:iz))] w',?_,?_⟩
  ·refine aE (aA nR (cG bL (Ar.ext hs.aF) (aH (aC (λ tV=>?_) (λ tV=>?_)))))
   ·refine aA H0 (aB (v:=.bool (((⟨m.er,m.fault,m.mK,uw m,false⟩:iz)).done)) Ti hs.hb rfl (bZ (aX (λ jW=>?_) (λ jW=>?_))))
    ·refine dB FC hs (C16 K p m _ (hm.ext hs.aF) (vD _ hs.aF) (λ w2 e=>vD _ (Ext.trans hs.aF e)) mu) (λ x45 pP bY hs=>?_);obtain ⟨ayu,akd,ake,_⟩:=(hs).dl;refine aJ nP akd ?_;rw [ake];refine aH (aA H6 (aV hs.p1 Ti (eJ rfl) (rfl) (λ sQ hs=>?_)));have hs:=hs.enc (cs':=Flat.enc ({ (⟨m.er,m.fault,m.mK,uw m,false⟩:iz) with stuck:=(decide (((dU m).length:Int)=0))}:iz)) rfl;have hs:=((hs.p1.drop.p1.drop).p1).p1;have hsm:yN m=(decide (((dU m).length:Int)=0)):=by unfold yN; rw [decide_eq_true tV,show uw m=false from by simpa using jW]; rfl
     unfold ph;rw [hsm];exact hs
    ·refine aA H6 (aV hs Ti (eJ rfl) (rfl) (λ vl hs=>?_));have hs:=hs.enc (cs':=Flat.enc ({ (⟨m.er,m.fault,m.mK,uw m,false⟩:iz) with stuck:=false}:iz)) rfl;have hs:=(hs.p1.drop.p1).p1;have hsm:yN m=false:=by unfold yN; rw [show uw m=true from by simpa using jW]; simp
     unfold ph;rw [hsm];exact hs
   ·refine aA H6 (aV hs Ti (eJ rfl) (rfl) (λ vm hs=>?_));have hs:=hs.enc (cs':=Flat.enc ({ (⟨m.er,m.fault,m.mK,uw m,false⟩:iz) with stuck:=false}:iz)) rfl;have hs:=(hs.p1.drop.p1).p1;have hsm:yN m=false:=by unfold yN; rw [decide_eq_false tV]; rfl
    unfold ph;rw [hsm];exact hs
  ·intro sd hs jw;refine aD Dq hs.At (aI (x:=(ph m)) hs.p1 Dq rfl rfl (λ v7 hs=>aD Dq hs.At ?_));have hs:=((hs.drop)).drop;exact ⟨rfl,hs.aF⟩
theorem C49 (K:World→Prop) (p:Nat) (m:gL) (w:World) (hm:Has (eO K p m) w) (hw:K w) (vD:∀ w',Ext w w'→K w') (mu:rE m) (Qi:m.u.cC.length≤1000) (hcz:∀ l∈m.u.cC,l.length≤1000) (gk:0≤m.u.stays∧m.u.stays≤m.mem.l.length):CR 49 [(.pointer (some ⟨p,0,none⟩))] w (λ v w'=>lW (bK v (CQ m)) w w'):=by
 obtain ⟨a,hr⟩:=eO.rd hm hw;have cm8:=hr.b.cell (o:=8) rfl;have cm0:=hr.b.cell (o:=0) rfl;have Yr:=hr.b.cell (o:=1) rfl;have cm3:=hr.b.cell (o:=3) rfl;have cm9:=hr.b.cell (o:=9) rfl;have Co:=hr.b.cell (o:=10) rfl;have E3:=hr.b.cell (o:=11) rfl;have By:=hr.b.cell (o:=12) rfl;have FX:=hr.b.cell (o:=13) rfl;have Ar:=hr.b.cell (o:=14) rfl;have FY:=hr.b.cell (o:=15) rfl;have ayv:=hr.uk.cl _ hw;have hs:=St.start w;refine ahc _ _ _ ?_;unfold S49;refine aE (aA tH (aA wV (cG RJ (cm8.ext hs.aF) ?_)));obtain ⟨ari,agf,agh⟩:=(ayv).open;have hn130:=agh.1;refine aJ FG (agf.ext hs.aF) ?_
 have hs:=hs.fX (α:=Bool);refine ⟨λ mm o x w1=>∃ k:Nat,x = .int .i64 (k:Int)∧mm=m.u.cC.length - k∧k≤m.u.cC.length∧St w bD [bK o ((m.u.cC.take k).map (yO m))] w1,⟨_,0,rfl,rfl,Nat.zero_le _,hs⟩,?_⟩;rintro mm fV _ w1 ⟨k,rfl,rfl,hk,hs⟩ fB;refine aR (aC (λ jG=>?_) (λ jG=>?_))
 ·refine ⟨λ o w'=>St w bD [bK o ((m.u.cC.take (k+1)).map (yO m))] w',?_,?_⟩
  ·obtain ⟨GL,kM⟩:=gx ari (i:=((k:Int)).toNat) (by omega);obtain ⟨mC,kN⟩:=gx (m.u.cC) (i:=((k:Int)).toNat) (by omega);have Vh:DL w (Flat.val GL) mC:=agh.2 _ _ _ kM kN;refine aQ FG agf (by omega) kM (λ _ tU=>aD xB (tU.ext hs.aF) ?_);have arj:=DL.flat (Vh);refine aE (aA tH (aA o9 (have hs:=hs.drew;cG bL (Yr.ext hs.aF) (dB YN hs (C22 K p m _ (hm.ext hs.aF) (vD _ hs.aF) (λ w2 e=>vD _ (Ext.trans hs.aF e)) mu) (λ Vi w2 bY hs=>?_)))));refine ⟨aG bL (Yr.ext hs.aF),?_⟩;refine lX ei (hs).fI (by omega) (by omega) (λ PV Bl=>aZ aeo hs (C110 _ _ mC (m.mem.l.take (m.u.stays).toNat) _ (arj.ext hs.aF) (Bl _ (hs).fI) (by have:=hcz _ (List.mem_of_getElem? kN); omega)) (λ w3 he hs=>bE rfl (bE rfl (aH (aC (λ nz=>?_) (λ nz=>?_))))))
   ·refine cS (bW ([decide ((runM mC (m.mem.l.take m.u.stays.toNat)).1≠0)]) hs xR rfl rfl (eJ rfl) (λ afl w4 hs=>?_));have EP:=(hs).fI;refine cN hs.p2 xR EP (by simp; omega) (by decide) (λ afy w5 hs=>?_);have hs:=hs.p1.drop.p1.drop;rw [← iO (k:=k) kN];have Sf:yO m mC=decide ((runM mC (m.mem.l.take m.u.stays.toNat)).1≠0):=by unfold yO; rw [decide_eq_true nz]; rfl
    rw [Sf];exact hs
   ·refine bW ([false]) hs xR rfl rfl (eJ rfl) (λ att w6 hs=>?_);have Xf:=(hs).fI;refine cN hs.p2 xR Xf (by simp; omega) (by decide) (λ atu w7 hs=>?_);have hs:=hs.p1.drop.p1.drop;rw [← iO (k:=k) kN];have Sf:yO m mC=false:=by unfold yO; rw [decide_eq_false nz]; rfl
    rw [Sf];exact hs
  ·intro nh w8 hs jw;refine aO (by omega) ?_;exact ⟨_,by omega,k+1,rfl,rfl,by omega,hs⟩
 ·rw [List.take_of_length_le (by omega)] at hs;exact hs.fresh
set_option maxHeartbeats 1000000 in
theorem C19 (K:World→Prop) (p:Nat) (m:gL) (w:World) (hm:Has (eO K p m) w) (hw:K w) (vD:∀ w',Ext w w'→K w') (mu:rE m) (tu:MB m.mem 1000000) (akf:m.u.locks≤1000):CR 19 [(.pointer (some ⟨p,0,none⟩))] w (λ v w'=>∃ b,v = .pointer (some ⟨b,0,none⟩)∧lW (eO K b m) w w'):=by
 obtain ⟨a,hr⟩:=eO.rd hm hw;have cm8:=hr.b.cell (o:=8) rfl;have cm0:=hr.b.cell (o:=0) rfl;have Yr:=hr.b.cell (o:=1) rfl;have cm3:=hr.b.cell (o:=3) rfl;have cm9:=hr.b.cell (o:=9) rfl;have Co:=hr.b.cell (o:=10) rfl;have E3:=hr.b.cell (o:=11) rfl;have By:=hr.b.cell (o:=12) rfl;have FX:=hr.b.cell (o:=13) rfl;have Ar:=hr.b.cell (o:=14) rfl;have FY:=hr.b.cell (o:=15) rfl;have hrl0:=hr.len;have htl0:=mu.tl;obtain ⟨ovs,hov⟩:=((hr.uk.mem _ hw).1).fQ;obtain ⟨fvs,hfv⟩:=((hr.uk.mem _ hw).2).fQ;have zo:=hr.c0;have Ck:=hr.c1;rw [hov] at zo;rw [hfv] at Ck;have hs:=St.start w;refine agP _ _ _ ?_;unfold S19;refine aE (qP aeT hr.b rfl (aN hs abh (λ ark w1 hs=>pk (vs:=jT a m) hs aeT rfl (by simp) (Oj hr.lk.one hr.ll.one) (λ w2 hs=>have hs:=hs.enc (cs':=jT a m) rfl;aE (aA jD (have hs:=hs.drew;cG rY (Co.ext hs.aF) (aE (aA nQ (cG et (E3.ext hs.aF) (eu auH (C69 a.q m.mem ovs fvs _ (zo.ext hs.aF) (Ck.ext hs.aF) (hr.mem.ext hs.aF) mu.mem tu) ?_))))))))))
 rintro _ w3 ⟨b2,rfl,bY⟩;have hs:=hs.made bY;refine ⟨aG et (E3.ext hs.aF),?_⟩;refine dB zi hs (C70 _ _ _ (hr.lk.ext hs.aF) (by have aj9:=mu.lk; have:=akf; omega)) (λ x19 w4 bY hs=>aA jD (aV hs.p2 rY (eJ rfl) (rfl) (λ w5 hs=>aA nQ (aV hs et (eJ rfl) ((hs.p1).fI.one) (λ w6 hs=>aA j9 (aV hs qR (eJ rfl) (rfl) (λ w7 hs=>aE (aA j9 (cG qR (By.ext hs.aF) (aJ rZ (hr.ll.ext hs.aF) ?_))))))))));obtain ⟨IB,rfl⟩:=(hs.p1).fQ;obtain ⟨lk2,ayx⟩:∃ l,l=IB:=⟨_,rfl⟩;subst ayx;have hs:=((((((hs.Kw (H:=pZ K m.room)).fX (α:=Ptr)).p4).p4).p3).p3).p4
 refine ⟨λ mm x w'=>∃ (j:Nat) (Xc:Value) (ps2:List Ptr),x = .int .i64 (j:Int)∧mm=a.ps.length - j∧j≤a.ps.length∧St w bD [cD ark (jT {a with q:=b2,lk:=Flat.val lk2,ll:=Xc} m),bK Xc ps2,iy (pZ K m.room) ps2 (m.l.take j),bK (Flat.val lk2) m.locks,fU b2 (Flat.val ovs) (Flat.val fvs) m.mem] w',⟨_,0,.slice none 0 0,[],rfl,rfl,Nat.zero_le _,hs⟩,?_⟩;rintro mm _ w8 ⟨j,Xc,ps2,rfl,rfl,hj1,hs⟩ fB;refine aR (aC (λ Vg=>?_) (λ Vg=>?_))
 ·obtain ⟨DZ,lB⟩:=gx (a.ps) (i:=((j:Int)).toNat) (by omega);refine aQ rZ hr.ll (by omega) lB (λ _ od=>aD BN (od.ext hs.aF) ?_);obtain ⟨t,ht⟩:∃ t,m.l[j]? = some t:=⟨_,List.getElem?_eq_getElem (by have:=hr.len; omega)⟩;have Cn:=List.mem_of_getElem? ht;have oC:=mu.th t Cn;have yU:=oC.bl;have ayh:=oC.rg;have hcn1:=oC.cn;have Ys:=oC.code.rb;have hcb:=oC.code.cb;obtain ⟨bp,gl,rg,cn,qH,pY,hB,BV,hcn⟩:=eH.rd (hr.th j _ _ lB ht);obtain ⟨ts0,hts⟩:=id qH;have ct0:=pY.cell (o:=0) rfl;have ct5:=pY.cell (o:=5) rfl;have ct6:=pY.cell (o:=6) rfl;refine aE (qP aeV (tB.ext pY hs.aF) rfl (aN hs abj (λ akg w9 hs=>pk (vs:=[.pointer (some ⟨bp,0,none⟩),.int .i64 t.code.aK,.int .i64 t.code.counts,gl,.int .i64 t.at_,rg,cn,.int .i64 t.fault,.int .i64 t.e,.int .i64 t.f]) hs aeV rfl (by simp) (Ok ((hts _ hw).1).one BV.one hcn.one) (λ pP hs=>have hs:=hs.enc (cs':=[.pointer (some ⟨bp,0,none⟩),.int .i64 t.code.aK,.int .i64 t.code.counts,gl,.int .i64 t.at_,rg,cn,.int .i64 t.fault,.int .i64 t.e,.int .i64 t.f]) rfl;aE (aA nS (have hs:=hs.drew;cG rX (ct0.ext hs.aF) (aE (aA pw (cG et (ct5.ext hs.aF) (aE (aA vP (cG et (ct6.ext hs.aF) ?_))))))))))))
  refine eu auI (C71 bp m.room t.buf _ (hB.ext hs.aF) (by omega)) ?_;rintro _ sQ ⟨bq,rfl,bY⟩;have hs:=hs.made bY;refine ⟨aG et (ct5.ext hs.aF),?_⟩;refine ⟨aG et (ct6.ext hs.aF),?_⟩;refine dB zi hs (C70 _ _ _ (BV.ext hs.aF) (by have aj9:=mu.lk; have:=akf; omega)) (λ x44 vl bY hs=>?_);refine ⟨aG et (ct6.ext hs.aF),?_⟩;refine dB zi hs (C70 _ _ _ (hcn.ext hs.aF) (by have aj9:=mu.lk; have:=akf; omega)) (λ x49 vm bY hs=>aA nS (aV hs.p3 rX (eJ rfl) (rfl) (λ sd hs=>aA pw (aV hs et (eJ rfl) ((hs.p2).fI.one) (λ v7 hs=>aA vP (aV hs et (eJ rfl) ((hs.p1).fI.one) (λ yT hs=>aA j9 ?_)))))))
  have vi:=(hs.p6).lg;refine aB qR hs.p4.hb rfl (bW ([(⟨akg⟩:Ptr)]) hs rZ rfl rfl (eJ rfl) (λ aqC Ch hs=>?_));have akh:=(hs).fI;refine cN hs.p6 rZ akh (by rw [List.length_take] at vi; have:=mu.tl; simp; omega) (by decide) (λ arn Im hs=>have hs:=hs.p1.drop;aA j9 (aV hs.p5 qR (eJ rfl) ((hs).fI.one) (λ Jp hs=>aO (by omega) ?_)));have hs:=eH.shut (room:=m.room) (t:=t) qH hs.p3.p4.p5.p5;have vi:=(hs.p3).lg;have hs:=(((((St.DN (H:=pZ K m.room) (p:=⟨akg⟩) (x:=t) hs.p3).p4).p4).p2).p4).p4;exact ⟨_,by omega,j+1,arn,ps2++[⟨akg⟩],rfl,rfl,by omega,by rw [← gX (k:=j) ht]; exact hs⟩
 ·have hs:=hs.p2.p2.p3.p4.p4;rw [List.take_of_length_le (by have:=hr.len; omega)] at hs;rw [← hov,← hfv] at hs;exact ⟨ark,rfl,(eO.shut (m:=m) (a:={a with q:=b2,lk:=Flat.val lk2,ll:=Xc,ps:=ps2}) ⟨hr.uk.ln,hr.uk.cl,hr.uk.rc,hr.uk.mem⟩ hs).fresh⟩
def BC (s:ByteArray) (a:Int) (t:ByteArray):Bool:=decide (a+t.size≤s.size) && decide (s.extract a.toNat (a+t.size).toNat=t)
def whF (p:UInt8→Bool) (s:ByteArray):Nat→Nat→Nat
 | 0,a=>a
 | n+1,a=>match (lf s)[a]? with
  | some c=>if p c=true then whF p s n (a+1) else a
  | none=>a
def vG (p:UInt8→Bool) (s:ByteArray) (a:Nat):Nat:=whF p s (s.size - a) a
section
variable {p:UInt8→Bool} {s:ByteArray} {k:Nat} {c:UInt8}
theorem I3 (h:s.size≤k):vG p s k=k:=by unfold vG; rw [show s.size - k=0 from by omega]; rfl
theorem qb (h:(lf s)[k]? = some c):k<s.size:=by have:=(List.getElem?_eq_some_iff.1 h).1; rw [dZ] at this; exact this
theorem E5 (h:(lf s)[k]? = some c) (hp:p c=true):vG p s k=vG p s (k+1):=by
 have hk:=qb h
 unfold vG
 rw [show s.size - k=(s.size - (k+1))+1 from by omega,whF,h]
 dsimp only
 rw [if_pos hp]
theorem E6 (h:(lf s)[k]? = some c) (hp:p c=false):vG p s k=k:=by
 have hk:=qb h
 unfold vG
 rw [show s.size - k=(s.size - (k+1))+1 from by omega,whF,h]
 dsimp only
 rw [hp]; rfl
end
def tn (c:UInt8):Bool:=decide (c.toNat=32∨c.toNat=9∨c.toNat=10∨c.toNat=13)
def yf (c:UInt8):Bool:=decide (c.toNat≠10)
def rG (c:UInt8):Bool:=jq c.toNat || nn c.toNat
def vE (c:UInt8):Bool:=nn c.toNat
def kH (s:ByteArray):Nat→Nat→Option Nat
 | 0,_=>none
 | n+1,a=>match (lf s)[a]? with
  | none=>some a
  | some c=>if tn c=true then kH s n (a+1) else if BC s a ⟨#[47,47]⟩=true then kH s n (vG yf s a) else some a
theorem Ol {s:ByteArray} {n a r:Nat} (h:kH s n a=some r):∃ k,n=k+1:=by
 cases n with
 | zero=>cases h
 | succ k=>exact ⟨k,rfl⟩
section
variable {s:ByteArray} {n a r:Nat} {c:UInt8}
theorem Sw (h:kH s (n+1) a=some r) (ha:s.size≤a):r=a:=by
 unfold kH at h; rw [List.getElem?_eq_none (by rw [dZ]; exact ha)] at h; exact (Option.some.inj h).symm
theorem B7 (h:kH s (n+1) a=some r) (hc:(lf s)[a]? = some c) (hb:tn c=true):kH s n (a+1)=some r:=by
 unfold kH at h; rw [hc] at h; dsimp only at h; rw [if_pos hb] at h; exact h
theorem He (h:kH s (n+1) a=some r) (hc:(lf s)[a]? = some c) (hb:tn c=false) (hr:BC s a ⟨#[47,47]⟩=true):kH s n (vG yf s a)=some r:=by
 unfold kH at h; rw [hc] at h; dsimp only at h; rw [if_neg (by rw [hb]; simp),if_pos hr] at h; exact h
theorem LO (h:kH s (n+1) a=some r) (hc:(lf s)[a]? = some c) (hb:tn c=false) (hr:BC s a ⟨#[47,47]⟩=false):r=a:=by
 unfold kH at h; rw [hc] at h; dsimp only at h; rw [if_neg (by rw [hb]; simp),if_neg (by rw [hr]; simp)] at h; exact (Option.some.inj h).symm
theorem Xg:∀ (n a:Nat) (p:UInt8→Bool),a≤whF p s n a∧whF p s n a≤max a s.size
 | 0,a,p=>⟨Nat.le_refl _,by unfold whF; omega⟩
 | n+1,a,p=>by
  unfold whF
  cases h:(lf s)[a]? with
  | none=>exact ⟨Nat.le_refl _,by dsimp only; omega⟩
  | some c=>
   dsimp only
   split
   ·have:=Xg n (a+1) p; have:=qb h; omega
   ·exact ⟨Nat.le_refl _,by omega⟩
theorem Om (p:UInt8→Bool):a≤vG p s a∧vG p s a≤max a s.size:=Xg _ _ _
theorem AB:∀ {n a r:Nat},kH s n a=some r→a≤s.size→a≤r∧r≤s.size
 | 0,_,_,h,_=>by cases h
 | n+1,a,r,h,ha=>by
  cases hc:(lf s)[a]? with
  | none=>unfold kH at h; rw [hc] at h; obtain rfl:=Option.some.inj h; omega
  | some c=>
   have hk:=qb hc
   cases hb:tn c with
   | true=>have:=AB (B7 h hc hb) (by omega); omega
   | false=>
    cases hr:BC s a ⟨#[47,47]⟩ with
    | true=>have h1:=Om (s:=s) (a:=a) yf; have:=AB (He h hc hb hr) (by omega); omega
    | false=>have:=LO h hc hb hr; omega
end
def Cp:List ByteArray:=[⟨#[61,61]⟩,⟨#[33,61]⟩,⟨#[60,61]⟩,⟨#[38,38]⟩,⟨#[124,124]⟩]
def pN (s:ByteArray) (a:Nat) (c:UInt8):Int:=if Cp.any (BC s a)=true then 2 else if (lf (ByteArray.mk #[40,41,123,125,59,44,61,60,33,43,45,42,47,37])).any (λ x=>decide ((x.toNat:Int)=c.toNat))=true then 1 else 0
def sD (l:List bF) (i:Int) (t:ByteArray):Bool:=decide (0≤i) && (match l[i.toNat]? with | some x=>decide (x.text=t) && decide (x.kind≠2) && decide (1≤x.kind) && decide (x.kind≤3) | none=>false)
def mM (l:List bF) (i:Int):Int:=match (if 0≤i then l[i.toNat]? else none) with
 | some x=>x.at_
 | none=>match l.getLast? with
  | some x=>x.at_+x.text.size
  | none=>0
theorem adr:∀ t∈Cp,t.size≤1000000:=by decide
theorem rH {l:List bF} {i:Int} {t:ByteArray} (h:sD l i t=true):0≤i∧i<l.length:=by
 unfold sD at h
 rw [Bool.and_eq_true,decide_eq_true_eq] at h
 refine ⟨h.1,?_⟩
 cases hx:l[i.toNat]? with
 | none=>rw [hx] at h; cases h.2
 | some x=>have:=(List.getElem?_eq_some_iff.1 hx).1; omega
theorem C232 (s t:ByteArray) (i:Int) (w:World) (hz:s.size≤1000000) (hz2:t.size≤1000000) (h0:0≤i∧i≤2000000):CR 232 [.string s,.int .i64 i,.string t] w (λ v w'=>v = .bool (BC s i t)∧Ext w w'):=by
 have hs:=St.start w;refine aaE _ _ _ _ _ ?_;unfold S232;refine ⟨λ jv w'=>jv = .bool (BC s i t)∧w=w',?_,?_⟩
 ·refine gb gH (aO (by omega) (gb gH (j3 (aC (λ kF=>?_) (λ kF=>?_)))))
  ·refine gb gH (aO (by omega) (Ks gH (by omega) (by omega) (by omega) (tT ?_)));exact ⟨vb (by unfold BC; grind),rfl⟩
  ·exact ⟨vb (by unfold BC; grind),rfl⟩
 ·rintro _ w1 ⟨rfl,hw⟩ fB;subst hw;exact ⟨rfl,hs.aF⟩
theorem C209 (s:ByteArray) (i N r:Nat) (w:World) (hz:s.size≤4000) (h0:i≤s.size) (hr:kH s N i=some r):CR 209 [.string s,.int .i64 (i:Int)] w (λ v w'=>v = .int .i64 (r:Int)∧Ext w w'):=by
 have hz0:=hz;replace hz:s.size≤1000000:=by omega
 have hs:=St.start w;refine aaj _ _ _ _ ?_;unfold S209;refine ⟨λ mm x w1=>∃ a:Nat,x = .int .i64 (a:Int)∧a≤s.size∧kH s mm a=some r∧St w bD [] w1,⟨N,i,rfl,h0,hr,hs⟩,?_⟩;rintro mm _ w1 ⟨a,rfl,ha,hp,hs⟩ fB;obtain ⟨k,rfl⟩:=Ol hp;refine gb gH (aR (aC (λ gu=>?_) (λ gu=>?_)))
 ·obtain ⟨aro,E7⟩:∃ xx,(lf (s))[((a:Int)).toNat]? = some xx:=⟨_,List.getElem?_eq_getElem (by rw [dZ]; omega)⟩;refine lG gH (by omega) E7 ?_;refine ⟨λ jv w'=>jv = .bool (tn aro)∧w1=w',?_,?_⟩
  ·refine nZ (aC (λ gQ=>?_) (λ gQ=>?_))
   ·exact ⟨vb (by unfold tn; first | exact (decide_eq_true (by omega)).symm | exact decide_eq_decide.2 (by omega)),rfl⟩
   ·refine nZ (aC (λ l4=>?_) (λ l4=>?_))
    ·exact ⟨vb (by unfold tn; first | exact (decide_eq_true (by omega)).symm | exact decide_eq_decide.2 (by omega)),rfl⟩
    ·refine nZ (aC (λ gr=>?_) (λ gr=>?_))
     ·exact ⟨vb (by unfold tn; first | exact (decide_eq_true (by omega)).symm | exact decide_eq_decide.2 (by omega)),rfl⟩
     ·refine nZ ?_;exact ⟨vb (by unfold tn; first | exact (decide_eq_true (by omega)).symm | exact decide_eq_decide.2 (by omega)),rfl⟩
  ·rintro _ w2 ⟨rfl,hw⟩ jw;subst hw;refine aX (λ qm=>?_) (λ qm=>?_)
   ·refine aO (by omega) ?_;have hal:=qb E7;exact ⟨k,by omega,a+1,rfl,by omega,B7 hp E7 qm,hs⟩
   ·refine aZ aeL hs (C232 s (ByteArray.mk #[47,47]) (a:Int) _ hz (by decide) (by omega)) (λ w3 he hs=>aX (λ lJ=>?_) (λ lJ=>?_))
    ·refine ⟨λ mm x w1=>∃ j:Nat,x = .int .i64 (j:Int)∧mm=s.size - j∧a≤j∧j≤s.size∧vG yf s a=vG yf s j∧St w bD [] w1,⟨_,a,rfl,rfl,Nat.le_refl _,ha,rfl,hs⟩,?_⟩;rintro mm _ w4 ⟨j,rfl,rfl,haj,hj,gk,hs⟩ oN;refine ⟨λ jv w'=>jv = .bool ((match (lf s)[j]? with | some c=>yf c | none=>false))∧w4=w',?_,?_⟩
     ·refine gb gH (aR (aC (λ jr=>?_) (λ jr=>?_)))
      ·obtain ⟨qp,pW⟩:∃ xx,(lf (s))[((j:Int)).toNat]? = some xx:=⟨_,List.getElem?_eq_getElem (by rw [dZ]; omega)⟩;refine lG gH (by omega) pW (UB ?_);exact ⟨vb (by first | (rw [show (lf s)[j]? = some qp from pW]; unfold yf; exact decide_eq_decide.2 (by omega)) | (rw [List.getElem?_eq_none (by rw [dZ]; omega)])),rfl⟩
      ·exact ⟨vb (by first | (rw [show (lf s)[j]? = some qp from pW]; unfold yf; exact decide_eq_decide.2 (by omega)) | (rw [List.getElem?_eq_none (by rw [dZ]; omega)])),rfl⟩
     ·rintro _ w5 ⟨rfl,hw⟩ GJ;subst hw;refine aX (λ jW=>?_) (λ jW=>?_)
      ·refine aO (by omega) ?_
       have QK:∃ c,(lf s)[j]? = some c∧yf c=true:=by
        cases hc:(lf s)[j]? with
        | none=>rw [hc] at jW; cases jW
        | some c=>rw [hc] at jW; exact ⟨c,rfl,jW⟩
       obtain ⟨cj,Cq,Sx⟩:=QK;have hjl:=qb Cq;exact ⟨_,by omega,j+1,rfl,rfl,by omega,by omega,gk.trans (E5 Cq Sx),hs⟩
      ·have ayy:vG yf s j=j:=by
        by_cases hjs:j<s.size
        ·obtain ⟨cj,QK⟩:∃ c,(lf s)[j]? = some c:=⟨_,List.getElem?_eq_getElem (by rw [dZ]; exact hjs)⟩;rw [QK] at jW; exact E6 QK jW
        ·exact I3 (by omega)
       have YC:=He hp E7 qm lJ;rw [gk,ayy] at YC;exact ⟨k,by omega,j,rfl,hj,YC,hs⟩
    ·have hx:=LO hp E7 qm (by exact_mod_cast lJ);subst hx;exact ⟨rfl,hs.aF⟩
 ·have hx:=Sw hp (by omega);subst hx;exact ⟨rfl,hs.aF⟩
theorem C210 (s:ByteArray) (i:Nat) (c:UInt8) (w:World) (hz:s.size≤1000000) (hc:(lf s)[i]? = some c):CR 210 [.string s,.int .i64 (i:Int)] w (λ v w'=>v = .int .i64 (pN s i c)∧Ext w w'):=by
 have hi:=qb hc;have hs:=St.start w;refine aak _ _ _ _ ?_;unfold S210;refine bW (Cp) hs mS rfl rfl (eJ rfl) (λ aoF w1 hs=>?_);refine ⟨λ mm x w1=>∃ k:Nat,x = .int .i64 (k:Int)∧mm=Cp.length - k∧k≤Cp.length∧(∀ y∈Cp.take k,BC s i y=false)∧St w bD [bK aoF Cp] w1,⟨_,0,rfl,rfl,Nat.zero_le _,by simp,hs⟩,?_⟩;rintro mm _ w2 ⟨k,rfl,rfl,hk,fR,hs⟩ fB;refine aJ mS (hs).fI ?_;have MW:Cp.length=5:=rfl;refine aR (aC (λ kF=>?_) (λ kF=>?_))
 ·obtain ⟨afw,oW⟩:=gx (Cp) (i:=((k:Int)).toNat) (by omega);refine dT hs mS (by omega) (by omega) (λ _ Li=>gj hs j4 Li oW (aZ aeL hs (C232 s afw (i:Int) _ hz (adr _ (List.mem_of_getElem? oW)) (by omega)) (λ w3 he hs=>aX (λ iL=>?_) (λ iL=>?_))))
  ·exact ⟨congrArg (Value.int .i64) (by unfold pN; rw [if_pos (jx oW iL)]),hs.drop.aF⟩
  ·refine aO (by omega) ?_;exact ⟨_,by omega,k+1,rfl,rfl,by omega,eD fR oW iL,hs⟩
 ·have hs:=(hs).drop;refine ⟨λ mm x w1=>∃ j:Nat,x = .int .i64 (j:Int)∧mm=(ByteArray.mk #[40,41,123,125,59,44,61,60,33,43,45,42,47,37]).size - j∧j≤(ByteArray.mk #[40,41,123,125,59,44,61,60,33,43,45,42,47,37]).size∧(∀ y∈(lf (ByteArray.mk #[40,41,123,125,59,44,61,60,33,43,45,42,47,37])).take j,decide ((y.toNat:Int)=c.toNat)=false)∧St w bD [] w1,⟨_,0,rfl,rfl,Nat.zero_le _,by simp,hs⟩,?_⟩;rintro mm _ w4 ⟨j,rfl,rfl,hj,Ed,hs⟩ jw;refine gb gH ?_;have Yq:(ByteArray.mk #[40,41,123,125,59,44,61,60,33,43,45,42,47,37]).size=14:=rfl;refine aR (aC (λ qm=>?_) (λ qm=>?_))
  ·obtain ⟨aqe,Bs⟩:∃ xx,(lf ((ByteArray.mk #[40,41,123,125,59,44,61,60,33,43,45,42,47,37])))[((j:Int)).toNat]? = some xx:=⟨_,List.getElem?_eq_getElem (by rw [dZ]; omega)⟩;refine lG gH (by omega) Bs ?_;obtain ⟨vr,te⟩:∃ xx,(lf (s))[((i:Int)).toNat]? = some xx:=⟨_,List.getElem?_eq_getElem (by rw [dZ]; omega)⟩;refine lG gH (by omega) te ?_;obtain rfl:=Option.some.inj (te.symm.trans hc);refine nZ (aC (λ jr=>?_) (λ jr=>?_))
   ·have hs:=hs.drew;have hn2:Cp.any (BC s i)=false:=iF (by rw [List.take_of_length_le (by omega)] at fR; exact fR);exact ⟨congrArg (Value.int .i64) (by unfold pN; rw [if_neg (by rw [hn2]; simp),if_pos (jx Bs (decide_eq_true jr))]),hs.aF⟩
   ·refine aO (by omega) ?_;have hs:=hs.drew;exact ⟨_,by omega,j+1,rfl,rfl,by omega,eD Ed Bs (decide_eq_false jr),hs⟩
  ·have hn2:Cp.any (BC s i)=false:=iF (by rw [List.take_of_length_le (by omega)] at fR; exact fR);have hn3:=iF (g:=λ x:UInt8=>decide ((x.toNat:Int)=c.toNat)) (by rw [List.take_of_length_le (by rw [dZ]; omega)] at Ed; exact Ed);exact ⟨congrArg (Value.int .i64) (by unfold pN; rw [if_neg (by rw [hn2]; simp),if_neg (by rw [hn3]; simp)]),hs.aF⟩
theorem C211 (lv:Value) (l:List bF) (i:Int) (t:ByteArray) (w:World) (hL:eF (λ _=>True) w lv l) (hn:l.length≤1000000):CR 211 [lv,.int .i64 i,.string t] w (λ v w'=>v = .bool (sD l i t)∧Ext w w'):=by
 have hs:=St.start w;refine aal _ _ _ _ _ ?_;unfold S211;refine ⟨λ jv w'=>jv = .bool (sD l i t)∧w=w',?_,?_⟩
 ·refine dG (aC (λ gn=>?_) (λ gn=>?_))
  ·refine aJ fC (hL.ext hs.aF) (aR (aC (λ kF=>?_) (λ kF=>?_)))
   ·obtain ⟨q7,jl⟩:=gx (l) (i:=(i).toNat) (by omega);refine aQ fC hL (by omega) jl (λ _ wc=>bT (q7).text mX wc rfl rfl (λ _ jI=>aD j4 (jI.ext hs.aF) (tT (aC (λ iL=>?_) (λ iL=>?_)))))
    ·refine aQ fC hL (by omega) jl (λ _ we=>bT (q7).kind kZ we rfl rfl (λ _ wj=>aD bL (wj.ext hs.aF) (cS (aC (λ nA=>?_) (λ nA=>?_)))))
     ·refine aQ fC hL (by omega) jl (λ _ zL=>bT (q7).kind kZ zL rfl rfl (λ _ tW=>aD bL (tW.ext hs.aF) (dG (aC (λ m7=>?_) (λ m7=>?_)))))
      ·refine aQ fC hL (by omega) jl (λ _ yd=>bT (q7).kind kZ yd rfl rfl (λ _ AD=>aD bL (AD.ext hs.aF) (j3 ?_)));exact ⟨vb (by unfold sD; first | (rw [jl]; grind) | (rw [decide_eq_false (by omega)]; rfl) | (rw [List.getElem?_eq_none (by omega)]; simp)),rfl⟩
      ·exact ⟨vb (by unfold sD; first | (rw [jl]; grind) | (rw [decide_eq_false (by omega)]; rfl) | (rw [List.getElem?_eq_none (by omega)]; simp)),rfl⟩
     ·exact ⟨vb (by unfold sD; first | (rw [jl]; grind) | (rw [decide_eq_false (by omega)]; rfl) | (rw [List.getElem?_eq_none (by omega)]; simp)),rfl⟩
    ·exact ⟨vb (by unfold sD; first | (rw [jl]; grind) | (rw [decide_eq_false (by omega)]; rfl) | (rw [List.getElem?_eq_none (by omega)]; simp)),rfl⟩
   ·exact ⟨vb (by unfold sD; first | (rw [jl]; grind) | (rw [decide_eq_false (by omega)]; rfl) | (rw [List.getElem?_eq_none (by omega)]; simp)),rfl⟩
  ·exact ⟨vb (by unfold sD; first | (rw [jl]; grind) | (rw [decide_eq_false (by omega)]; rfl) | (rw [List.getElem?_eq_none (by omega)]; simp)),rfl⟩
 ·rintro _ w1 ⟨rfl,hw⟩ fB;subst hw;exact ⟨rfl,hs.aF⟩
theorem C215 (lv:Value) (l:List bF) (i:Int) (w:World) (hL:eF (λ _=>True) w lv l) (hn:l.length≤1000000) (sS:∀ x∈l,0≤x.at_∧x.at_≤1000000∧x.text.size≤1000000):CR 215 [lv,.int .i64 i] w (λ v w'=>v = .int .i64 (mM l i)∧Ext w w'):=by
 have hs:=St.start w;refine aap _ _ _ _ ?_;unfold S215;refine ⟨λ jv w'=>jv = .bool (decide (0≤i∧i<l.length))∧w=w',?_,?_⟩
 ·refine dG (aC (λ pC=>?_) (λ pC=>?_))
  ·refine aJ fC (hL.ext hs.aF) (aR ?_);exact ⟨xw (by omega),rfl⟩
  ·exact ⟨YJ (by omega),rfl⟩
 ·rintro _ w1 ⟨rfl,hw⟩ fB;subst hw;refine aC (λ jV=>?_) (λ jV=>?_)
  ·obtain ⟨pF,jQ⟩:=gx (l) (i:=(i).toNat) (by omega);refine aQ fC hL (by omega) jQ (λ _ qZ=>bT (pF).at_ ld qZ rfl rfl (λ _ tU=>aD bL (tU.ext hs.aF) ?_));exact ⟨congrArg (Value.int .i64) (by unfold mM; rw [if_pos (by omega),jQ]),hs.aF⟩
  ·refine aJ fC (hL.ext hs.aF) (aH (aC (λ js=>?_) (λ js=>?_)))
   ·have hl0:l=[]:=List.length_eq_zero_iff.1 (by omega);subst hl0;exact ⟨congrArg (Value.int .i64) (by unfold mM; split <;> simp_all),hs.aF⟩
   ·refine aJ fC (hL.ext hs.aF) (gy (by omega) ?_);obtain ⟨GP,pU⟩:=gx (l) (i:=((((l).length:Int) - 1)).toNat) (by omega);refine aQ fC hL (by omega) pU (λ _ ud=>bT (GP).at_ ld ud rfl rfl (λ _ q9=>have hs:=hs.drew;aD bL (q9.ext hs.aF) (aJ fC (hL.ext hs.aF) (gy (by omega) (aQ fC hL (by omega) pU (λ _ zX=>bT (GP).text mX zX rfl rfl (λ _ zY=>aD j4 (zY.ext hs.aF) (gb gH ?_))))))));have hax:=sS _ (List.mem_of_getElem? pU);refine aO (by omega) ?_;have hgl:l.getLast? = some GP:=by rw [List.getLast?_eq_getElem?,← pU]; congr 1; omega
    have fR:(if 0≤i then l[i.toNat]? else none)=none:=by split; exact List.getElem?_eq_none (by omega); rfl
    exact ⟨congrArg (Value.int .i64) (by unfold mM; rw [fR,hgl]),hs.aF⟩
def numOf (s:ByteArray) (a k:Nat):Int:=(((lf s).drop a).take (k - a)).foldl (λ n c=>if n≤4294967296 then 10 * n+((c.toNat:Int) - 48) else n) 0
theorem I4 (s:ByteArray) (a:Nat):numOf s a a=0:=by unfold numOf; rw [Nat.sub_self]; rfl
theorem yP {s:ByteArray} {a k:Nat} {c:UInt8} (ha:a≤k) (h:(lf s)[k]? = some c):numOf s a (k+1)=if numOf s a k≤4294967296 then 10 * numOf s a k+((c.toNat:Int) - 48) else numOf s a k:=by
 unfold numOf
 rw [show k+1 - a=(k - a)+1 from by omega,List.take_add_one,List.getElem?_drop,show a+(k - a)=k from by omega,h,Option.toList_some,List.foldl_append]
 rfl
theorem ads {s:ByteArray} {a:Nat}:∀ {k:Nat},a≤k→k≤s.size→(∀ j c,a≤j→j<k→(lf s)[j]? = some c→48≤(c.toNat:Int)∧(c.toNat:Int)≤57)→0≤numOf s a k∧numOf s a k≤42949672969:=by
 intro k
 induction k with
 | zero=>
  intro h _ _
  have e:a=0:=by omega
  rw [e,I4]; omega
 | succ k ih=>
  intro ha hk hd
  by_cases e:a=k+1
  ·subst e; rw [I4]; omega
  ·have:=ih (by omega) (by omega) λ j c h1 h2=>hd j c h1 (by omega)
   obtain ⟨c,hc⟩:∃ c,(lf s)[k]? = some c:=⟨_,List.getElem?_eq_getElem (by rw [dZ]; omega)⟩
   have h2:=hd k c (by omega) (by omega) hc
   rw [yP (by omega) hc]
   split <;> omega
def mg (s:ByteArray):Nat→Nat→List bF→Option (List bF × Int × Int)
 | 0,_,_=>none
 | n+1,a,out=>match (lf s)[a]? with
  | none=>some (out,0,0)
  | some c=>
   if jq c.toNat=true then (if 16<vG rG s a - a then some ([],2,(a:Int)) else (kH s (s.size+1) (vG rG s a)).bind λ a'=>mg s n a' (out++[⟨1,s.extract a (vG rG s a),0,a⟩]))
   else if nn c.toNat=true then (if 4294967296<numOf s a (vG vE s a) then some ([],4,(a:Int)) else (kH s (s.size+1) (vG vE s a)).bind λ a'=>mg s n a' (out++[⟨2,s.extract a (vG vE s a),numOf s a (vG vE s a),a⟩]))
   else if pN s a c=0 then some ([],3,(a:Int)) else (kH s (s.size+1) (a+(pN s a c).toNat)).bind λ a'=>mg s n a' (out++[⟨3,s.extract a (a+(pN s a c).toNat),0,a⟩])
def ux (s:ByteArray):Option (List bF × Int × Int):=if 4000<s.size then some ([],2,4000) else (kH s (s.size+1) 0).bind λ a=>mg s (s.size+2) a []
theorem On {s:ByteArray} {n a:Nat} {out:List bF} {r:List bF × Int × Int} (h:mg s n a out=some r):∃ k,n=k+1:=by
 cases n with
 | zero=>cases h
 | succ k=>exact ⟨k,rfl⟩
def AE (s:ByteArray) (k a:Nat) (out:List bF) (R:List bF × Int × Int) (kd:Int) (e:Nat) (n:Int):Prop:=a<e∧e≤s.size∧∃ a',kH s (s.size+1) e=some a'∧mg s k a' (out++[⟨kd,s.extract a e,n,a⟩])=some R
section
variable {s:ByteArray} {k a:Nat} {c:UInt8} {out:List bF} {R:List bF × Int × Int}
theorem Sy (h:mg s (k+1) a out=some R) (ha:s.size≤a):R=(out,0,0):=by
 unfold mg at h; rw [List.getElem?_eq_none (by rw [dZ]; exact ha)] at h; exact (Option.some.inj h).symm
theorem FZ (h:mg s (k+1) a out=some R) (hc:(lf s)[a]? = some c) (hl:jq c.toNat=true) (hb:16<vG rG s a - a):R=([],2,(a:Int)):=by
 unfold mg at h; rw [hc] at h; dsimp only at h; rw [if_pos hl,if_pos hb] at h; exact (Option.some.inj h).symm
theorem BD {e:Nat} {kd n:Int} (h:((kH s (s.size+1) e).bind λ a'=>mg s k a' (out++[⟨kd,s.extract a e,n,a⟩]))=some R) (h1:a<e) (h2:e≤s.size):AE s k a out R kd e n:=by
 cases hp:kH s (s.size+1) e with
 | none=>rw [hp] at h; cases h
 | some a'=>rw [hp] at h; exact ⟨h1,h2,a',hp,h⟩
theorem Sz (h:mg s (k+1) a out=some R) (hc:(lf s)[a]? = some c) (hl:jq c.toNat=true) (hb:¬ 16<vG rG s a - a) (hgt:a<vG rG s a):AE s k a out R 1 (vG rG s a) 0:=by
 unfold mg at h; rw [hc] at h; dsimp only at h; rw [if_pos hl,if_neg hb] at h
 have:=qb hc; have h2:=Om (s:=s) (a:=a) rG
 exact BD h hgt (by omega)
theorem I5 (h:mg s (k+1) a out=some R) (hc:(lf s)[a]? = some c) (hl:jq c.toNat=false) (hd:nn c.toNat=true) (hb:4294967296<numOf s a (vG vE s a)):R=([],4,(a:Int)):=by
 unfold mg at h; rw [hc] at h; dsimp only at h; rw [if_neg (by rw [hl]; simp),if_pos hd,if_pos hb] at h; exact (Option.some.inj h).symm
theorem Xh (h:mg s (k+1) a out=some R) (hc:(lf s)[a]? = some c) (hl:jq c.toNat=false) (hd:nn c.toNat=true) (hb:¬ 4294967296<numOf s a (vG vE s a)) (hgt:a<vG vE s a):AE s k a out R 2 (vG vE s a) (numOf s a (vG vE s a)):=by
 unfold mg at h; rw [hc] at h; dsimp only at h; rw [if_neg (by rw [hl]; simp),if_pos hd,if_neg hb] at h
 have:=qb hc; have h2:=Om (s:=s) (a:=a) vE
 exact BD h hgt (by omega)
theorem SA (h:mg s (k+1) a out=some R) (hc:(lf s)[a]? = some c) (hl:jq c.toNat=false) (hd:nn c.toNat=false) (hb:pN s a c=0):R=([],3,(a:Int)):=by
 unfold mg at h; rw [hc] at h; dsimp only at h; rw [if_neg (by rw [hl]; simp),if_neg (by rw [hd]; simp),if_pos hb] at h; exact (Option.some.inj h).symm
theorem Xi (s:ByteArray) (a:Nat) (c:UInt8):pN s a c=0∨pN s a c=1∨pN s a c=2:=by
 unfold pN
 repeat' split
 all_goals simp
theorem QL {s:ByteArray} {a:Nat} {c:UInt8} (h:(lf s)[a]? = some c):(a:Int)+pN s a c≤s.size:=by
 have hk:=qb h
 unfold pN
 split
 ·rename_i h2
  rw [List.any_eq_true] at h2
  obtain ⟨t,ht,hb⟩:=h2
  have:t.size=2:=by
   have mi:∀ t∈Cp,t.size=2:=by decide
   exact mi t ht
  unfold BC at hb
  rw [Bool.and_eq_true,decide_eq_true_eq] at hb
  omega
 ·split <;> omega
theorem SB (h:mg s (k+1) a out=some R) (hc:(lf s)[a]? = some c) (hl:jq c.toNat=false) (hd:nn c.toNat=false) (hb:¬ pN s a c=0):AE s k a out R 3 (a+(pN s a c).toNat) 0:=by
 unfold mg at h; rw [hc] at h; dsimp only at h; rw [if_neg (by rw [hl]; simp),if_neg (by rw [hd]; simp),if_neg hb] at h
 have h1:=Xi s a c; have h2:=QL hc
 exact BD h (by omega) (by omega)
end
set_option maxHeartbeats 1000000 in
theorem C164 (s:ByteArray) (R:List bF × Int × Int) (w:World) (Yk:s.size≤1000000) (hr:ux s=some R):CR 164 [.string s] w (λ v w'=>∃ o,v = .tuple #[o,.int .i64 R.2.1,.int .i64 R.2.2]∧lW (bK o R.1) w w'):=by
 have hs:=St.start w;refine ZH _ _ _ ?_;unfold S164;refine gb gH (dA (aC (λ gP=>?_) (λ gP=>?_)))
 ·have hR:([],2,4000)=R:=by unfold ux at hr; rw [if_pos (by omega)] at hr; exact Option.some.inj hr
  subst hR;exact ⟨_,rfl,hs.fX.fresh⟩
 ·have h4:s.size≤4000:=by omega
  obtain ⟨a0,ha0,hp0⟩:∃ a0,kH s (s.size+1) 0=some a0∧mg s (s.size+2) a0 []=some R:=by
   unfold ux at hr;rw [if_neg (by omega)] at hr;cases hq:kH s (s.size+1) 0 with
   | none=>rw [hq] at hr; cases hr
   | some a0=>rw [hq] at hr; exact ⟨a0,rfl,hr⟩
  have ayA:=AB ha0 (by omega);refine bW (([]:List bF)) hs fC rfl rfl (eJ rfl) (λ s_x12 w1 hs=>aZ aeI hs (C209 s 0 (s.size+1) a0 _ (by omega) (by omega) ha0) (λ w2 he hs=>?_));refine ⟨λ mm o x w'=>∃ (a:Nat) (out:List bF),x = .int .i64 (a:Int)∧a≤s.size∧out.length≤a∧mg s mm a out=some R∧St w bD [bK o out] w',⟨_,a0,[],rfl,ayA.2,Nat.zero_le _,hp0,hs⟩,?_⟩;rintro mm yl _ w3 ⟨a,out,rfl,ha,Yq,hp,hs⟩ fB;obtain ⟨k,rfl⟩:=On hp;refine gb gH (aR (aC (λ gd=>?_) (λ gd=>?_)))
  ·refine pop (Ur _) (aN hs abn (λ SC w4 hs=>aI (x:=(⟨0,(ByteArray.mk #[]),0,(a:Int)⟩:bF)) hs aeX rfl rfl (λ w5 hs=>?_)));refine ⟨λ to w'=>∃ (kd:Int) (e:Nat) (n:Int),to = .int .i64 (e:Int)∧AE s k a out R kd e n∧St w bD [cD SC (Flat.enc (⟨kd,ByteArray.mk #[],n,(a:Int)⟩:bF)),bK yl out] w',?_,?_⟩
   ·obtain ⟨gR,im⟩:∃ xx,(lf (s))[((a:Int)).toNat]? = some xx:=⟨_,List.getElem?_eq_getElem (by rw [dZ]; omega)⟩;refine lG gH (by omega) im ?_;have Yt:(lf s)[a]? = some gR:=im;refine aZ Pr hs (C206 _ _) (λ w6 he hs=>aX (λ fP=>?_) (λ fP=>?_))
    ·have Mt:=fP;refine aA kZ (aV hs bL (eJ rfl) (rfl) (λ w7 hs=>?_));have hs:=hs.enc (cs':=Flat.enc ({ (⟨0,(ByteArray.mk #[]),0,(a:Int)⟩:bF) with kind:=1}:bF)) rfl;have hs:=hs.p1.p1;refine ⟨λ mm x w'=>∃ j:Nat,x = .int .i64 (j:Int)∧mm=s.size - j∧a≤j∧j≤s.size∧vG rG s a=vG rG s j∧St w bD [cD SC (Flat.enc (⟨1,ByteArray.mk #[],0,(a:Int)⟩:bF)),bK yl out] w',⟨_,a,rfl,rfl,Nat.le_refl _,ha,rfl,hs⟩,?_⟩;rintro mm _ w8 ⟨j,rfl,rfl,haj,hj,gk,hs⟩ jw;refine ⟨λ jv w'=>jv = .bool (match (lf s)[j]? with | some c=>rG c | none=>false)∧St w bD [cD SC (Flat.enc (⟨1,ByteArray.mk #[],0,(a:Int)⟩:bF)),bK yl out] w',?_,?_⟩
     ·refine gb gH (aR (aC (λ nA=>?_) (λ nA=>?_)))
      ·obtain ⟨vr,te⟩:∃ xx,(lf (s))[((j:Int)).toNat]? = some xx:=⟨_,List.getElem?_eq_getElem (by rw [dZ]; omega)⟩;refine lG gH (by omega) te ?_;have hcj0:(lf s)[j]? = some vr:=te;refine aZ Pr hs (C206 _ _) (λ w9 he hs=>aX (λ jr=>?_) (λ jr=>?_))
       ·exact ⟨vb (by first | (rw [show (lf s)[j]? = some vr from te]; show _=(jq vr.toNat || nn vr.toNat); rw [jr]; rfl) | (rw [List.getElem?_eq_none (by rw [dZ]; omega)])),hs⟩
       ·refine lG gH (by omega) te (aZ Ps hs (C208 _ _) (λ pP he hs=>?_));exact ⟨vb (by first | (rw [show (lf s)[j]? = some vr from te]; show _=(jq vr.toNat || nn vr.toNat); rw [jr]; rfl) | (rw [List.getElem?_eq_none (by rw [dZ]; omega)])),hs⟩
      ·exact ⟨vb (by first | (rw [show (lf s)[j]? = some vr from te]; show _=(jq vr.toNat || nn vr.toNat); rw [jr]; rfl) | (rw [List.getElem?_eq_none (by rw [dZ]; omega)])),hs⟩
     ·rintro _ sQ ⟨rfl,hs⟩ oN;refine aX (λ lL=>?_) (λ lL=>?_)
      ·refine aO (by omega) ?_
       have QK:∃ c,(lf s)[j]? = some c∧rG c=true:=by
        cases hc:(lf s)[j]? with
        | none=>rw [hc] at lL; cases lL
        | some c=>rw [hc] at lL; exact ⟨c,rfl,lL⟩
       obtain ⟨cj,Cq,Sx⟩:=QK;have hjl:=qb Cq;exact ⟨_,by omega,j+1,rfl,rfl,by omega,by omega,gk.trans (E5 Cq Sx),hs⟩
      ·have I6:vG rG s j=j:=by
        by_cases hjs:j<s.size
        ·obtain ⟨cj,QK⟩:∃ c,(lf s)[j]? = some c:=⟨_,List.getElem?_eq_getElem (by rw [dZ]; exact hjs)⟩;rw [QK] at lL; exact E6 QK lL
        ·exact I3 (by omega)
       refine gy (by omega) (dA (aC (λ zP=>?_) (λ zP=>?_)))
       ·have hs:=((hs.drop)).drop;have hR:=FZ hp Yt Mt (by rw [gk,I6]; omega);subst hR;exact ⟨_,rfl,hs.fX.fresh⟩
       ·have hs:=hs.p1.p1
        have hgt:a<j:=by
         rcases Nat.lt_or_ge a j with h | h
         ·exact h
         ·obtain rfl:j=a:=by omega
          rw [Yt] at lL; have h9:rG gR=false:=lL; unfold rG at h9; rw [Mt] at h9; cases h9
        have Xj:=Sz hp Yt Mt (by rw [gk,I6]; omega) (by rw [gk,I6]; exact hgt);rw [gk,I6] at Xj;exact ⟨1,j,0,rfl,Xj,hs⟩
    ·have Mt:=fP;refine lG gH (by omega) im (aZ Ps hs (C208 _ _) (λ vl he hs=>aX (λ BT=>?_) (λ BT=>?_)))
     ·have hda:=BT;refine aA kZ (aV hs bL (eJ rfl) (rfl) (λ vm hs=>?_));have hs:=hs.enc (cs':=Flat.enc ({ (⟨0,(ByteArray.mk #[]),0,(a:Int)⟩:bF) with kind:=2}:bF)) rfl;have hs:=hs.p1.p1;refine ⟨λ mm x w'=>∃ j:Nat,x = .int .i64 (j:Int)∧mm=s.size - j∧a≤j∧j≤s.size∧vG vE s a=vG vE s j∧(∀ (i:Nat) (c:UInt8),a≤i→i<j→(lf s)[i]? = some c→48≤(c.toNat:Int)∧(c.toNat:Int)≤57)∧St w bD [cD SC (Flat.enc (⟨2,ByteArray.mk #[],(numOf s a j),(a:Int)⟩:bF)),bK yl out] w',⟨_,a,rfl,rfl,Nat.le_refl _,ha,rfl,λ i c h1 h2=>absurd h1 (by omega),by rw [I4]; exact hs⟩,?_⟩
      rintro mm _ sd ⟨j,rfl,rfl,haj,hj,gk,hdg,hs⟩ GJ;refine ⟨λ jv w'=>jv = .bool (match (lf s)[j]? with | some c=>vE c | none=>false)∧St w bD [cD SC (Flat.enc (⟨2,ByteArray.mk #[],(numOf s a j),(a:Int)⟩:bF)),bK yl out] w',?_,?_⟩
      ·refine gb gH (aR (aC (λ ua=>?_) (λ ua=>?_)))
       ·obtain ⟨agk,Oo⟩:∃ xx,(lf (s))[((j:Int)).toNat]? = some xx:=⟨_,List.getElem?_eq_getElem (by rw [dZ]; omega)⟩;refine lG gH (by omega) Oo (aZ Ps hs (C208 _ _) (λ v7 he hs=>?_));exact ⟨vb (by first | (rw [show (lf s)[j]? = some agk from Oo]; rfl) | (rw [List.getElem?_eq_none (by rw [dZ]; omega)])),hs⟩
       ·exact ⟨vb (by first | (rw [show (lf s)[j]? = some agk from Oo]; rfl) | (rw [List.getElem?_eq_none (by rw [dZ]; omega)])),hs⟩
      ·rintro _ yT ⟨rfl,hs⟩ RX;refine aX (λ qn=>?_) (λ qn=>?_)
       ·have QK:∃ c,(lf s)[j]? = some c∧vE c=true:=by
         cases hc:(lf s)[j]? with
         | none=>rw [hc] at qn; cases qn
         | some c=>rw [hc] at qn; exact ⟨c,rfl,qn⟩
        obtain ⟨cj,Cq,Sx⟩:=QK;have hjl:=qb Cq;have hcd:=Sx;unfold vE nn at hcd;rw [decide_eq_true_eq] at hcd;have hnb:=ads haj (by omega) hdg;refine ⟨λ w'=>St w bD [cD SC (Flat.enc (⟨2,ByteArray.mk #[],(numOf s a (j+1)),(a:Int)⟩:bF)),bK yl out] w',?_,?_⟩
        ·refine aA qV (aB (v:=.int .i64 (numOf s a j)) bL hs.hb rfl (j3 (aC (λ og=>?_) (λ og=>?_))))
         ·refine aA qV (have hs:=hs.drew;aB (v:=.int .i64 (numOf s a j)) bL hs.hb rfl (Pv (by omega) ?_));obtain ⟨ars,Xk⟩:∃ xx,(lf (s))[((j:Int)).toNat]? = some xx:=⟨_,List.getElem?_eq_getElem (by rw [dZ]; omega)⟩;refine lG gH (by omega) Xk ?_;obtain rfl:=Option.some.inj (Xk.symm.trans (show (lf s)[((j:Int)).toNat]? = some cj from Cq));refine Xa (by omega) (Su xz oJ (by omega) (aO (by omega) (aA qV (aV hs bL (eJ rfl) (rfl) (λ Ch hs=>?_)))));have hs:=hs.enc (cs':=Flat.enc ({ (⟨2,ByteArray.mk #[],(numOf s a j),(a:Int)⟩:bF) with n:=((10 * (numOf s a j))+((ars.toNat:Int) - 48))}:bF)) rfl
          have hs:=hs.p1.p1;rw [yP haj Cq,if_pos og];exact hs
         ·have hs:=hs.p1.p1;rw [yP haj Cq,if_neg og];exact hs
        ·intro Im hs dd6;refine aO (by omega) ?_
         exact ⟨_,by omega,j+1,rfl,rfl,by omega,by omega,gk.trans (E5 Cq Sx),λ i c h1 h2 h3=>by
          by_cases e:i=j
          ·subst e; obtain rfl:=Option.some.inj (h3.symm.trans Cq); omega
          ·exact hdg i c h1 (by omega) h3,hs⟩
       ·have I6:vG vE s j=j:=by
         by_cases hjs:j<s.size
         ·obtain ⟨cj,QK⟩:∃ c,(lf s)[j]? = some c:=⟨_,List.getElem?_eq_getElem (by rw [dZ]; exact hjs)⟩;rw [QK] at qn; exact E6 QK qn
         ·exact I3 (by omega)
        refine aA qV (aB (v:=.int .i64 (numOf s a j)) bL hs.hb rfl (dA (aC (λ zR=>?_) (λ zR=>?_))))
        ·have hs:=((hs.drop)).drop;have hR:=I5 hp Yt Mt hda (by rw [gk,I6]; omega);subst hR;exact ⟨_,rfl,hs.fX.fresh⟩
        ·have hs:=hs.p1.p1
         have hgt:a<j:=by
          rcases Nat.lt_or_ge a j with h | h
          ·exact h
          ·obtain rfl:j=a:=by omega
           rw [Yt] at qn; have h9:vE gR=false:=qn; unfold vE at h9; rw [hda] at h9; cases h9
         have Xj:=Xh hp Yt Mt hda (by rw [gk,I6]; omega) (by rw [gk,I6]; exact hgt);rw [gk,I6] at Xj;exact ⟨2,j,_,rfl,Xj,hs⟩
     ·have hda:=BT;have hsb:=Xi s a gR;have hsi:=QL Yt;refine aA kZ (aV hs bL (eJ rfl) (rfl) (λ Jp hs=>have hs:=hs.enc (cs':=Flat.enc ({ (⟨0,(ByteArray.mk #[]),0,(a:Int)⟩:bF) with kind:=3}:bF)) rfl;aZ anr hs (C210 s a gR _ Yk Yt) (λ Kz he hs=>aO (by omega) (aH (aC (λ Wm=>?_) (λ Wm=>?_))))))
      ·have hs:=((hs.drop)).drop;have hR:=SA hp Yt Mt hda (by omega);subst hR;exact ⟨_,rfl,hs.fX.fresh⟩
      ·have hs:=hs.p1.p1;have Xj:=SB hp Yt Mt hda (by omega);exact ⟨3,a+(pN s a gR).toNat,0,by congr 1; omega,Xj,hs⟩
   ·rintro _ Mu ⟨kd,e,n,rfl,Xj,hs⟩ dd7;have ayB:=Xj;obtain ⟨h1e0,h2e0,_⟩:=ayB;refine Ks gH (by omega) (by omega) (by omega) (aA mX (aV hs j4 (eJ rfl) (rfl) (λ Qm hs=>have hs:=hs.enc (cs':=Flat.enc ({ (⟨kd,ByteArray.mk #[],n,(a:Int)⟩:bF) with text:=((s).extract ((a:Int)).toNat ((e:Int)).toNat)}:bF)) rfl;aD aeX hs.At (bW ([(⟨kd,s.extract (a:Int).toNat (e:Int).toNat,n,(a:Int)⟩:bF)]) hs fC rfl rfl (eJ rfl) (λ akj Tn hs=>?_)))));have adt:=(hs).fI;refine cN hs.p2 fC adt (by simp; omega) (by decide) (λ akk VG hs=>?_);have hs:=hs.p1.drop;obtain ⟨h1e,h2e,a2,Yi,YC⟩:=Xj
    have ayC:=AB Yi h2e;refine aZ aeI hs (C209 s e (s.size+1) a2 _ (by omega) (by omega) Yi) (λ R4 he hs=>?_);have hs:=(hs.p1).drop;exact ⟨k,by omega,a2,_,rfl,ayC.2,by simp; omega,YC,hs⟩
  ·have hR:=Sy hp (by omega);subst hR;exact ⟨_,rfl,hs.fresh⟩
structure fD where
 l:(List cX)
 to:Int
 e:Int
 at_:Int
deriving DecidableEq
structure dQ where
 l:SV
 to:Int
 e:Int
 at_:Int
instance:Flat dQ where
 agg:=true
 sz:=4
 enc e:=[.slice e.l.a e.l.n e.l.cap,.int .i64 e.to,.int .i64 e.e,.int .i64 e.at_]
 val e:=.agg [.slice e.l.a e.l.n e.l.cap,.int .i64 e.to,.int .i64 e.e,.int .i64 e.at_].toArray
 pos:=by decide
 len _:=rfl
 one a v h:=by simp at h; rcases h with rfl | rfl | rfl | rfl <;> rfl
 nO _ _:=rfl
 oz h:=by cases h
instance:cA fD dQ where
 dr w s x:=∃ (l_:SV),s=(⟨l_,x.to,x.e,x.at_⟩:dQ)∧DL w (Flat.val l_) x.l
 ext h e:=by
  obtain ⟨g0,rfl,h0⟩:=h
  exact ⟨g0,rfl,h0.ext e⟩
theorem kU {w:World} {sh:dQ} {x:fD} (h:cA.dr w sh x):DL w (Flat.val sh.l) x.l:=by obtain ⟨_,rfl,h⟩:=h; exact h
def qc (n:Int):List Int:=if n=0 then [15] else if n=1 then [14] else if n=2 then [10,11,12,13] else if n=3 then [5,6] else [7,8,9]
def CS:List ByteArray:=[⟨#[]⟩,⟨#[]⟩,⟨#[]⟩,⟨#[45]⟩,⟨#[33]⟩,⟨#[43]⟩,⟨#[45]⟩,⟨#[42]⟩,⟨#[47]⟩,⟨#[37]⟩,⟨#[61,61]⟩,⟨#[33,61]⟩,⟨#[60]⟩,⟨#[60,61]⟩,⟨#[38,38]⟩,⟨#[124,124]⟩]
def LP (k:Int):ByteArray:=(CS[k.toNat]?).getD ⟨#[]⟩
def gi (l:List bF) (i e:Int):fD:=⟨[],0,if (l.length:Int)≤i then 6 else e,mM l i⟩
abbrev art (r:fD) (w:World):=qf λ v w'=>∃ sh:dQ,v=Flat.val sh∧lW (eS (λ w=>cA.dr w sh r)) w w'
def akl (l:List bF) (rec:Int→Int→Int→Option fD):Prop:=∀ (lv:Value) (i d n:Int) (r:fD) (w:World),eF (λ _=>True) w lv l→rec i d n=some r→0≤i∧i≤l.length→0≤d∧d≤12→0≤n∧n≤5→
 Calls PG 235 [lv,.int .i64 i,.int .i64 d,.int .i64 n].toArray w (art r w)∧(n=5→Calls PG 257 [lv,.int .i64 i,.int .i64 d].toArray w (art r w))
structure ir (l:List bF):Prop where
 n:l.length≤5000
 at_:∀ x∈l,0≤x.at_∧x.at_≤1000000∧x.text.size≤1000000
def SD (l:List bF) (i:Int):Bool:=sD l i ⟨#[33]⟩ || sD l i ⟨#[45]⟩
def o0 (rec:Int→Int→Int→Option fD) (l:List bF) (i d:Int):Option fD:=
 match (if (l.length:Int)≤i then none else l[i.toNat]?) with
 | none=>some (gi l i 6)
 | some t=>if ((SD l i || sD l i ⟨#[40]⟩) && decide (d=12))=true then some (gi l i 7)
  else if SD l i=true then (rec (i+1) (d+1) 5).bind λ x=>if x.l.length≤10000 then some (if x.e≠0 then x else {x with l:=[⟨if t.text=⟨#[45]⟩ then 3 else 4,0,⟨#[]⟩,t.at_⟩]++x.l}) else none
  else if sD l i ⟨#[40]⟩=true then (rec (i+1) (d+1) 0).bind λ x=>some (if x.e≠0 then x else if sD l x.to ⟨#[41]⟩=true then {x with to:=x.to+1} else gi l x.to 5)
  else if t.kind=2 then some ⟨[⟨1,t.n,⟨#[]⟩,t.at_⟩],i+1,0,0⟩
  else if (decide (t.kind=1) && jX t.text)=true then some ⟨[⟨2,0,t.text,t.at_⟩],i+1,0,0⟩
  else some (gi l i 5)
def E8 (l:List bF) (to n:Int) (k:Nat):Int:=((qc n).take k).foldl (λ op f=>if sD l to (LP f)=true then f else op) 0
def I7 (l:List bF) (to n:Int):Int:=E8 l to n (qc n).length
theorem Hf {l:List bF} {to n:Int} {k:Nat} {f:Int} (h:(qc n)[k]? = some f):E8 l to n (k+1)=if sD l to (LP f)=true then f else E8 l to n k:=by
 unfold E8; rw [List.take_add_one,h,Option.toList_some,List.foldl_append]; rfl
def vv (rec:Int→Int→Int→Option fD) (l:List bF) (d n:Int):Nat→fD→Option fD
 | 0,_=>none
 | k+1,x=>if x.e≠0 then some x else if I7 l x.to n=0 then some x else match (if 0≤x.to then l[x.to.toNat]? else none) with
  | none=>none
  | some t=>match rec (x.to+1) d (n+1) with
   | none=>none
   | some y=>if y.e≠0 then some y else if x.l.length+y.l.length≤10000 then
     (if n=2 then some ⟨[⟨I7 l x.to n,0,⟨#[]⟩,t.at_⟩]++x.l++y.l,y.to,0,0⟩ else vv rec l d n k ⟨[⟨I7 l x.to n,0,⟨#[]⟩,t.at_⟩]++x.l++y.l,y.to,0,0⟩) else none
def Hg (l:List bF):Nat→Int→Int→Int→Option fD
 | 0,_,_,_=>none
 | k+1,i,d,n=>if n=5 then o0 (Hg l k) l i d else (Hg l k i d (n+1)).bind (vv (Hg l k) l d n k)
theorem Xl {n:Int} {k:Nat} {f:Int} (h:(qc n)[k]? = some f):5≤f∧f≤15:=by
 have hm:=List.mem_of_getElem? h
 unfold qc at hm
 repeat' split at hm
 all_goals (simp at hm; omega)
section
variable {rec:Int→Int→Int→Option fD} {l:List bF} {i d n:Int} {r x y:fD} {t:bF} {k:Nat}
theorem Oq (h:o0 rec l i d=some r) (hl:(l.length:Int)≤i):r=gi l i 6:=by
 unfold o0 at h; rw [if_pos hl] at h; exact (Option.some.inj h).symm
theorem LQ (h:o0 rec l i d=some r) (hl:¬ (l.length:Int)≤i) (ht:l[i.toNat]? = some t) (hd:((SD l i || sD l i ⟨#[40]⟩) && decide (d=12))=true):r=gi l i 7:=by
 unfold o0 at h; rw [if_neg hl,ht] at h; dsimp only at h; rw [if_pos hd] at h; exact (Option.some.inj h).symm
theorem SE (h:o0 rec l i d=some r) (hl:¬ (l.length:Int)≤i) (ht:l[i.toNat]? = some t) (hd:((SD l i || sD l i ⟨#[40]⟩) && decide (d=12))=false) (hu:SD l i=true) :
  ∃ x,rec (i+1) (d+1) 5=some x∧x.l.length≤10000∧r=if x.e≠0 then x else {x with l:=[⟨if t.text=⟨#[45]⟩ then 3 else 4,0,⟨#[]⟩,t.at_⟩]++x.l}:=by
 unfold o0 at h; rw [if_neg hl,ht] at h; dsimp only at h; rw [if_neg (by rw [hd]; simp),if_pos hu] at h
 cases hr:rec (i+1) (d+1) 5 with
 | none=>rw [hr] at h; cases h
 | some x=>
  rw [hr] at h
  by_cases hx:x.l.length≤10000
  ·exact ⟨x,rfl,hx,by simpa [hx] using h.symm⟩
  ·simp [hx] at h
theorem LR (h:o0 rec l i d=some r) (hl:¬ (l.length:Int)≤i) (ht:l[i.toNat]? = some t) (hd:((SD l i || sD l i ⟨#[40]⟩) && decide (d=12))=false) (hu:SD l i=false) (ho:sD l i ⟨#[40]⟩=true) :
  ∃ x,rec (i+1) (d+1) 0=some x∧r=if x.e≠0 then x else if sD l x.to ⟨#[41]⟩=true then {x with to:=x.to+1} else gi l x.to 5:=by
 unfold o0 at h; rw [if_neg hl,ht] at h; dsimp only at h; rw [if_neg (by rw [hd]; simp),if_neg (by rw [hu]; simp),if_pos ho] at h
 cases hr:rec (i+1) (d+1) 0 with
 | none=>rw [hr] at h; cases h
 | some x=>rw [hr] at h; exact ⟨x,rfl,(Option.some.inj h).symm⟩
theorem LS (h:o0 rec l i d=some r) (hl:¬ (l.length:Int)≤i) (ht:l[i.toNat]? = some t) (hd:((SD l i || sD l i ⟨#[40]⟩) && decide (d=12))=false) (hu:SD l i=false) (ho:sD l i ⟨#[40]⟩=false) :
  r=if t.kind=2 then ⟨[⟨1,t.n,⟨#[]⟩,t.at_⟩],i+1,0,0⟩ else if (decide (t.kind=1) && jX t.text)=true then ⟨[⟨2,0,t.text,t.at_⟩],i+1,0,0⟩ else gi l i 5:=by
 unfold o0 at h; rw [if_neg hl,ht] at h; dsimp only at h; rw [if_neg (by rw [hd]; simp),if_neg (by rw [hu]; simp),if_neg (by rw [ho]; simp)] at h
 split at h
 ·rename_i h1; rw [if_pos h1]; exact (Option.some.inj h).symm
 ·rename_i h1; rw [if_neg h1]
  split at h
  ·rename_i h2; rw [if_pos h2]; exact (Option.some.inj h).symm
  ·rename_i h2; rw [if_neg h2]; exact (Option.some.inj h).symm
theorem Ot (h:vv rec l d n k x=some r):∃ j,k=j+1:=by
 cases k with
 | zero=>cases h
 | succ j=>exact ⟨j,rfl⟩
theorem adu (h:vv rec l d n (k+1) x=some r) (he:x.e≠0):r=x:=by
 unfold vv at h; rw [if_pos he] at h; exact (Option.some.inj h).symm
theorem Xm (h:vv rec l d n (k+1) x=some r) (he:¬ x.e≠0) (ho:I7 l x.to n=0):r=x:=by
 unfold vv at h; rw [if_neg he,if_pos ho] at h; exact (Option.some.inj h).symm
theorem Xn (h:vv rec l d n (k+1) x=some r) (he:¬ x.e≠0) (ho:¬ I7 l x.to n=0):∃ t y,0≤x.to∧l[x.to.toNat]? = some t∧rec (x.to+1) d (n+1)=some y∧(y.e≠0→r=y)∧
  (¬ y.e≠0→x.l.length+y.l.length≤10000∧(n=2→r=⟨[⟨I7 l x.to n,0,⟨#[]⟩,t.at_⟩]++x.l++y.l,y.to,0,0⟩)∧(¬ n=2→vv rec l d n k ⟨[⟨I7 l x.to n,0,⟨#[]⟩,t.at_⟩]++x.l++y.l,y.to,0,0⟩=some r)):=by
 unfold vv at h; rw [if_neg he,if_neg ho] at h
 by_cases h0:0≤x.to
 ·rw [if_pos h0] at h
  cases ht:l[x.to.toNat]? with
  | none=>rw [ht] at h; cases h
  | some t=>
   rw [ht] at h; dsimp only at h
   cases hr:rec (x.to+1) d (n+1) with
   | none=>rw [hr] at h; cases h
   | some y=>
    rw [hr] at h; dsimp only at h
    refine ⟨t,y,h0,rfl,rfl,λ hy=>?_,λ hy=>?_⟩
    ·rw [if_pos hy] at h; exact (Option.some.inj h).symm
    ·rw [if_neg hy] at h
     by_cases hl:x.l.length+y.l.length≤10000
     ·rw [if_pos hl] at h
      refine ⟨hl,λ h2=>?_,λ h2=>?_⟩
      ·rw [if_pos h2] at h; exact (Option.some.inj h).symm
      ·rw [if_neg h2] at h; exact h
     ·rw [if_neg hl] at h; cases h
 ·rw [if_neg h0] at h; cases h
theorem agl (h:Hg l (k+1) i d 5=some r):o0 (Hg l k) l i d=some r:=by unfold Hg at h; rw [if_pos rfl] at h; exact h
theorem aru (h:Hg l (k+1) i d n=some r) (hn:¬ n=5):∃ x,Hg l k i d (n+1)=some x∧vv (Hg l k) l d n k x=some r:=by
 unfold Hg at h; rw [if_neg hn] at h
 cases hx:Hg l k i d (n+1) with
 | none=>rw [hx] at h; cases h
 | some x=>rw [hx] at h; exact ⟨x,rfl,h⟩
end
def vw (l:List bF) (i:Int):Option (List cX × Int × Int × Int):=if i<0 then some ([],0,1,0) else (Hg l 10000 i 0 0).bind λ x=>
 if x.e≠0 then some ([],0,x.e,x.at_) else match yu x.l,l[i.toNat]? with
  | some t,some k=>if x.l.length≤10000 then (if 12<t.depth then some ([],0,7,k.at_) else if 40<x.l.length then some ([],0,2,k.at_) else some (x.l,x.to,0,0)) else none
  | _,_=>none
theorem Ou (n:Int):(qc n).length≤4:=by
 unfold qc
 repeat' split
 all_goals simp
theorem C258 (n:Int) (w:World) (hn:0≤n∧n≤4):CR 258 [.int .i64 n] w (λ v w'=>lW (bK v (qc n)) w w'):=by
 have hs:=St.start w;refine aa5 _ _ _ ?_;unfold S258;refine bW (([15]:List Int)) hs ei rfl rfl (eJ rfl) (λ arv w1 hs=>bW (([14]:List Int)) hs ei rfl rfl (eJ rfl) (λ aww w2 hs=>bW (([10,11,12,13]:List Int)) hs ei rfl rfl (eJ rfl) (λ Ip w3 hs=>bW (([5,6]:List Int)) hs ei rfl rfl (eJ rfl) (λ acp w4 hs=>bW (([7,8,9]:List Int)) hs ei rfl rfl (eJ rfl) (λ KV w5 hs=>?_)))));obtain ⟨QM,rfl⟩:=(hs.p4).fQ;obtain ⟨CL,rfl⟩:=(hs.p3).fQ;obtain ⟨QN,rfl⟩:=(hs.p2).fQ;obtain ⟨QO,rfl⟩:=(hs.p1).fQ;obtain ⟨QP,rfl⟩:=(hs).fQ;refine bW ([QM,CL,QN,QO,QP]) hs xS rfl rfl (eJ rfl) (λ xJ w6 hs=>?_)
 have hs:=((((((((((((hs.abv (α:=Int))).p6).p1).DF).p5).p1).DF).p4).p1).DF).p3).p1;have hs:=hs.DF.p2.p1.DF;obtain rfl | rfl | rfl | rfl | rfl:n=0∨n=1∨n=2∨n=3∨n=4:=by omega
 ·have adv:=hs.zD;refine dT hs.p1 xS (by decide) (by simp) (λ QQ qo=>gj hs.p1 et qo (show _=some QM from rfl) ?_);have hs:=hs.split;exact hs.fresh
 ·have adv:=hs.zD;refine dT hs.p1 xS (by decide) (by simp) (λ QQ qo=>gj hs.p1 et qo (show _=some CL from rfl) ?_);have hs:=hs.split.drop.split;exact hs.fresh
 ·have adv:=hs.zD;refine dT hs.p1 xS (by decide) (by simp) (λ QQ qo=>gj hs.p1 et qo (show _=some QN from rfl) ?_);have hs:=hs.split.drop.split.drop.split;exact hs.fresh
 ·have adv:=hs.zD;refine dT hs.p1 xS (by decide) (by simp) (λ QQ qo=>gj hs.p1 et qo (show _=some QO from rfl) ?_);have hs:=hs.split.drop.split.drop.split.drop.split;exact hs.fresh
 ·have adv:=hs.zD;refine dT hs.p1 xS (by decide) (by simp) (λ QQ qo=>gj hs.p1 et qo (show _=some QP from rfl) ?_);have hs:=hs.split.drop.split.drop.split.drop.split.drop.split;exact hs.fresh
theorem C259 (k:Int) (w:World) (hk:0≤k∧k≤15):CR 259 [.int .i64 k] w (λ v w'=>v = .string (LP k)∧Ext w w'):=by
 have hs:=St.start w;refine aa6 _ _ _ ?_;unfold S259;refine bW (CS) hs mS rfl rfl (eJ rfl) (λ arv w1 hs=>?_);have hsl:CS.length=16:=rfl;obtain ⟨ayD,LU⟩:=gx (CS) (i:=(k).toNat) (by omega);refine dT hs mS (by omega) (by omega) (λ _ R9=>gj hs j4 R9 LU ?_);refine ⟨?_,hs.drop.aF⟩;unfold LP;rw [LU]; rfl
theorem C263 (lv:Value) (l:List bF) (i e:Int) (w:World) (hL:eF (λ _=>True) w lv l) (hk:ir l):CR 263 [lv,.int .i64 i,.int .i64 e] w (λ v w'=>∃ sh:dQ,v=Flat.val sh∧lW (eS (λ w=>cA.dr w sh (gi l i e))) w w'):=by
 have Fu:=hk.n;have hn:l.length≤1000000:=by omega
 have sS:=hk.at_;have hs:=St.start w;refine aba _ _ _ _ _ ?_;unfold S263;refine aN hs r8 (λ N3 w1 hs=>?_);have hs:=hs.enc (cs':=Flat.enc (⟨⟨none,0,0⟩,0,0,0⟩:dQ)) rfl;refine ⟨λ jv w'=>jv = .int .i64 (if (l.length:Int)≤i then 6 else e)∧w1=w',?_,?_⟩
 ·refine aJ fC (hL.ext hs.aF) (dG (aC (λ fO=>?_) (λ fO=>?_)))
  ·exact ⟨by rw [if_pos (by omega)],rfl⟩
  ·exact ⟨by rw [if_neg (by omega)],rfl⟩
 ·rintro _ w2 ⟨rfl,hw⟩ fB;subst hw;refine aZ Gk hs (C215 _ l i _ (hL.ext hs.aF) hn sS) (λ w3 he hs=>pop (M9 _ _) (aI (x:=(⟨⟨none,0,0⟩,0,(if (l.length:Int)≤i then 6 else e),(mM l i)⟩:dQ)) hs fS rfl rfl (λ w4 hs=>aD fS hs.At ?_)));have hs:=hs.gE (Φ:=(λ w=>cA.dr w (⟨⟨none,0,0⟩,0,(if (l.length:Int)≤i then 6 else e),(mM l i)⟩:dQ) (⟨[],0,(if (l.length:Int)≤i then 6 else e),(mM l i)⟩:fD))) (λ w=>⟨_,rfl,DL.nil _⟩);have hs:=(hs.p1).drop;exact ⟨_,rfl,hs.fresh⟩
set_option maxHeartbeats 2000000 in
theorem C257 (l:List bF) (rec:Int→Int→Int→Option fD) (lv:Value) (i d:Int) (r:fD) (w:World) (hL:eF (λ _=>True) w lv l) (hk:ir l) (HR:akl l rec) (h0:0≤i∧i≤l.length) (hd:0≤d∧d≤12) (hr:o0 rec l i d=some r):CR 257 [lv,.int .i64 i,.int .i64 d] w (λ v w'=>∃ sh:dQ,v=Flat.val sh∧lW (eS (λ w=>cA.dr w sh r)) w w'):=by
 have Fu:=hk.n;have hn:l.length≤1000000:=by omega
 have sS:=hk.at_;have hs:=St.start w;refine aa4 _ _ _ _ _ ?_;unfold S257;refine aN hs r8 (λ N3 w1 hs=>have hs:=hs.enc (cs':=Flat.enc (⟨⟨none,0,0⟩,0,0,0⟩:dQ)) rfl;aJ fC (hL.ext hs.aF) (dG (aC (λ eB=>?_) (λ eB=>?_))))
 ·refine eu Pu (C263 _ l i 6 _ (hL.ext hs.aF) hk) ?_;rintro _ w2 ⟨akm,rfl,bY⟩;have hs:=hs.made bY;obtain ⟨AF,Ov,_⟩:=(hs).eS;subst Ov;refine aI (x:=(⟨AF,((gi l i 6)).to,((gi l i 6)).e,((gi l i 6)).at_⟩:dQ)) hs.p1 fS rfl rfl (λ w3 hs=>aD fS hs.At ?_);have hR:r=(⟨((gi l i 6)).l,((gi l i 6)).to,((gi l i 6)).e,((gi l i 6)).at_⟩:fD):=Oq hr (by omega);rw [hR];have hs:=hs.p1.dO (Ψ:=(λ w=>cA.dr w (⟨AF,((gi l i 6)).to,((gi l i 6)).e,((gi l i 6)).at_⟩:dQ) (⟨((gi l i 6)).l,((gi l i 6)).to,((gi l i 6)).e,((gi l i 6)).at_⟩:fD))) (λ w h=>⟨_,rfl,kU (h)⟩)
  have hs:=(hs.p1).drop;exact ⟨_,rfl,hs.fresh⟩
 ·obtain ⟨t,ht⟩:∃ t,l[i.toNat]? = some t:=⟨_,List.getElem?_eq_getElem (by omega)⟩;have hta:=sS t (List.mem_of_getElem? ht);refine ⟨λ jv w'=>jv = .bool (SD l i)∧St w bD [cD N3 (Flat.enc (⟨⟨none,0,0⟩,0,0,0⟩:dQ))] w',?_,?_⟩
  ·refine aZ vj hs (C211 _ l i (ByteArray.mk #[33]) _ (hL.ext hs.aF) hn) (λ w4 he hs=>aX (λ iL=>?_) (λ iL=>?_))
   ·exact ⟨vb (by unfold SD; rw [iL]; rfl),hs⟩
   ·refine aZ vj hs (C211 _ l i (ByteArray.mk #[45]) _ (hL.ext hs.aF) hn) (λ w5 he hs=>?_);exact ⟨vb (by unfold SD; rw [iL]; rfl),hs⟩
  ·rintro _ w6 ⟨rfl,hs⟩ fB;refine aZ vj hs (C211 _ l i (ByteArray.mk #[40]) _ (hL.ext hs.aF) hn) (λ w7 he hs=>?_);refine ⟨λ jv w'=>jv = .bool ((SD l i || sD l i (ByteArray.mk #[40])) && decide (d=12))∧St w bD [cD N3 (Flat.enc (⟨⟨none,0,0⟩,0,0,0⟩:dQ))] w',?_,?_⟩
   ·refine aX (λ nF=>?_) (λ nF=>?_)
    ·refine aH ?_;exact ⟨vb (by first | (rw [nF]; simp; done) | (rw [nF,nA]; simp; done) | (rw [nF]; rfl) | (rw [nF,nA]; rfl)),hs⟩
    ·refine aX (λ nA=>?_) (λ nA=>?_)
     ·refine aH ?_;exact ⟨vb (by first | (rw [nF]; simp; done) | (rw [nF,nA]; simp; done) | (rw [nF]; rfl) | (rw [nF,nA]; rfl)),hs⟩
     ·exact ⟨vb (by first | (rw [nF]; simp; done) | (rw [nF,nA]; simp; done) | (rw [nF]; rfl) | (rw [nF,nA]; rfl)),hs⟩
   ·rintro _ w8 ⟨rfl,hs⟩ jw;refine aX (λ m7=>?_) (λ m7=>?_)
    ·refine eu Pu (C263 _ l i 7 _ (hL.ext hs.aF) hk) ?_;rintro _ w9 ⟨ayE,rfl,bY⟩;have hs:=hs.made bY;obtain ⟨QR,akn,_⟩:=(hs).eS;subst akn;refine aI (x:=(⟨QR,((gi l i 7)).to,((gi l i 7)).e,((gi l i 7)).at_⟩:dQ)) hs.p1 fS rfl rfl (λ pP hs=>aD fS hs.At ?_);have hR:r=(⟨((gi l i 7)).l,((gi l i 7)).to,((gi l i 7)).e,((gi l i 7)).at_⟩:fD):=LQ hr (by omega) ht m7;rw [hR];have hs:=hs.p1.dO (Ψ:=(λ w=>cA.dr w (⟨QR,((gi l i 7)).to,((gi l i 7)).e,((gi l i 7)).at_⟩:dQ) (⟨((gi l i 7)).l,((gi l i 7)).to,((gi l i 7)).e,((gi l i 7)).at_⟩:fD))) (λ w h=>⟨_,rfl,kU (h)⟩)
     have hs:=(hs.p1).drop;exact ⟨_,rfl,hs.fresh⟩
    ·refine aX (λ nF=>?_) (λ nF=>?_)
     ·refine aO (by omega) (aO (by omega) ?_);have ayF:¬ d=12:=λ h=>by rw [nF,decide_eq_true h] at m7; cases m7
      obtain ⟨x1,hx1,O6,hrx⟩:=SE hr (by omega) ht m7 nF;refine eu aeO ((HR _ (i+1) (d+1) 5 x1 _ (hL.ext hs.aF) hx1 (by omega) (by omega) (by omega)).2 rfl) ?_;rintro _ sQ ⟨ayG,rfl,bY⟩;have hs:=hs.made bY;obtain ⟨CT,ako,_⟩:=(hs).eS;subst ako;refine aN hs r8 (λ DV vl hs=>have hs:=hs.enc (cs':=Flat.enc (⟨⟨none,0,0⟩,0,0,0⟩:dQ)) rfl;aI (x:=(⟨CT,(x1).to,(x1).e,(x1).at_⟩:dQ)) hs fS rfl rfl (λ vm hs=>aA tP (aB (v:=.int .i64 (x1).e) nj hs.hb rfl (cS (aC (λ pE=>?_) (λ pE=>?_))))))
      ·refine aD fS hs.At (aI (x:=(⟨CT,(x1).to,(x1).e,(x1).at_⟩:dQ)) hs.p2 fS rfl rfl (λ sd hs=>aD fS hs.At ?_));have hR:r=(⟨(x1).l,(x1).to,(x1).e,(x1).at_⟩:fD):=hrx.trans (if_pos pE);rw [hR];have hs:=hs.p2.dO (Ψ:=(λ w=>cA.dr w (⟨CT,(x1).to,(x1).e,(x1).at_⟩:dQ) (⟨(x1).l,(x1).to,(x1).e,(x1).at_⟩:fD))) (λ w h=>⟨_,rfl,kU (h)⟩);have hs:=((hs.p1.drop).p1).drop;exact ⟨_,rfl,hs.fresh⟩
      ·refine ⟨λ jv w'=>jv = .int .i64 (if t.text=ByteArray.mk #[45] then 3 else 4)∧vm=w',?_,?_⟩
       ·refine aQ fC (hL.ext hs.aF) (by omega) ht (λ _ DW=>bT (t).text mX DW rfl rfl (λ _ Lw=>aD j4 (Lw) (tT (aC (λ ua=>?_) (λ ua=>?_)))))
        ·exact ⟨by rw [if_pos ua],rfl⟩
        ·exact ⟨by rw [if_neg ua],rfl⟩
       ·rintro _ v7 ⟨rfl,hw⟩ oN;subst hw;obtain ⟨op,agm⟩:∃ op,op=(if t.text=ByteArray.mk #[45] then (3:Int) else 4):=⟨_,rfl⟩;rw [← agm];refine aQ fC (hL.ext hs.aF) (by omega) ht (λ _ Lk=>bT (t).at_ ld Lk rfl rfl (λ _ KS=>aD bL (KS) (pop (DC _ _) (bW ([(⟨op,0,(ByteArray.mk #[]),(t).at_⟩:cX)]) hs lP rfl rfl (eJ rfl) (λ s_x66 yT hs=>aA qW (aB (v:=Flat.val (CT:SV)) mR hs.p1.hb rfl ?_))))));have Bo:=(DL.flat (kU (hs.p2).eS));refine cN hs lP Bo (by simp; omega) (by decide) (λ af2 Ch hs=>aA qW ?_);obtain ⟨Ow,rfl⟩:=(hs).fQ
        refine aV hs.p1 mR (eJ rfl) (rfl) (λ Im hs=>have hs:=hs.enc (cs':=Flat.enc (⟨Ow,(x1).to,(x1).e,(x1).at_⟩:dQ)) rfl;aD fS hs.At (aI (x:=(⟨Ow,(x1).to,(x1).e,(x1).at_⟩:dQ)) hs.p3 fS rfl rfl (λ Jp hs=>aD fS hs.At ?_)));have hR:r=(⟨([(⟨op,0,(ByteArray.mk #[]),(t).at_⟩:cX)]++(x1).l),(x1).to,(x1).e,(x1).at_⟩:fD):=by rw [hrx,if_neg pE,← agm]
        rw [hR];have hs:=hs.p2.freeze.dO (Ψ:=(λ w=>cA.dr w (⟨Ow,(x1).to,(x1).e,(x1).at_⟩:dQ) (⟨([(⟨op,0,(ByteArray.mk #[]),(t).at_⟩:cX)]++(x1).l),(x1).to,(x1).e,(x1).at_⟩:fD))) (λ w h=>⟨_,rfl,DL.fq h⟩);have hs:=(((hs.p1.drop.p1).drop).p1).drop;exact ⟨_,rfl,hs.fresh⟩
     ·refine aX (λ nA=>?_) (λ nA=>?_)
      ·refine aO (by omega) (aO (by omega) ?_);have ayF:¬ d=12:=λ h=>by rw [nF,nA,decide_eq_true h] at m7; cases m7
       obtain ⟨x1,hx1,hrx⟩:=LR hr (by omega) ht m7 nF nA;refine eu Pt ((HR _ (i+1) (d+1) 0 x1 _ (hL.ext hs.aF) hx1 (by omega) (by omega) (by omega)).1) ?_;rintro _ Kz ⟨ayH,rfl,bY⟩;have hs:=hs.made bY;obtain ⟨xm,akp,_⟩:=(hs).eS;subst akp;refine aN hs r8 (λ UG Mu hs=>have hs:=hs.enc (cs':=Flat.enc (⟨⟨none,0,0⟩,0,0,0⟩:dQ)) rfl;aI (x:=(⟨xm,(x1).to,(x1).e,(x1).at_⟩:dQ)) hs fS rfl rfl (λ Qm hs=>aA tP (aB (v:=.int .i64 (x1).e) nj hs.hb rfl (cS (aC (λ QS=>?_) (λ QS=>?_))))))
       ·refine aD fS hs.At (aI (x:=(⟨xm,(x1).to,(x1).e,(x1).at_⟩:dQ)) hs.p2 fS rfl rfl (λ Tn hs=>aD fS hs.At ?_));have hR:r=(⟨(x1).l,(x1).to,(x1).e,(x1).at_⟩:fD):=hrx.trans (if_pos QS);rw [hR];have hs:=hs.p2.dO (Ψ:=(λ w=>cA.dr w (⟨xm,(x1).to,(x1).e,(x1).at_⟩:dQ) (⟨(x1).l,(x1).to,(x1).e,(x1).at_⟩:fD))) (λ w h=>⟨_,rfl,kU (h)⟩);have hs:=((hs.p1.drop).p1).drop;exact ⟨_,rfl,hs.fresh⟩
       ·refine aA nW (aB (v:=.int .i64 (x1).to) bL hs.hb rfl (aZ vj hs (C211 _ l (x1).to (ByteArray.mk #[41]) _ (hL.ext hs.aF) hn) (λ VG he hs=>bZ (aX (λ QT=>?_) (λ QT=>?_)))))
        ·refine aA nW (aB (v:=.int .i64 (x1).to) bL hs.hb rfl (eu Pu (C263 _ l (x1).to 5 _ (hL.ext hs.aF) hk) ?_));rintro _ R4 ⟨ayI,rfl,bY⟩;have hs:=hs.made bY;obtain ⟨QU,akq,_⟩:=(hs).eS;subst akq;refine aI (x:=(⟨QU,((gi l (x1).to 5)).to,((gi l (x1).to 5)).e,((gi l (x1).to 5)).at_⟩:dQ)) hs.p3 fS rfl rfl (λ w26 hs=>aD fS hs.At ?_);have hR:r=(⟨((gi l (x1).to 5)).l,((gi l (x1).to 5)).to,((gi l (x1).to 5)).e,((gi l (x1).to 5)).at_⟩:fD):=hrx.trans ((if_neg QS).trans (if_neg (by simpa using QT)));rw [hR];have hs:=hs.p1.dO (Ψ:=(λ w=>cA.dr w (⟨QU,((gi l (x1).to 5)).to,((gi l (x1).to 5)).e,((gi l (x1).to 5)).at_⟩:dQ) (⟨((gi l (x1).to 5)).l,((gi l (x1).to 5)).to,((gi l (x1).to 5)).e,((gi l (x1).to 5)).at_⟩:fD))) (λ w h=>⟨_,rfl,kU (h)⟩)
         have hs:=(((hs.p1.drop.p1).drop).p1).drop;exact ⟨_,rfl,hs.fresh⟩
        ·refine aA nW (aB (v:=.int .i64 (x1).to) bL hs.hb rfl ?_);have vk:=rH (l:=l) (i:=x1.to) (t:=ByteArray.mk #[41]) (by simpa using QT);refine aO (by omega) (aA nW (aV hs bL (eJ rfl) (rfl) (λ w27 hs=>have hs:=hs.enc (cs':=Flat.enc (⟨xm,((x1).to+1),(x1).e,(x1).at_⟩:dQ)) rfl;aD fS hs.At (aI (x:=(⟨xm,((x1).to+1),(x1).e,(x1).at_⟩:dQ)) hs.p2 fS rfl rfl (λ w28 hs=>aD fS hs.At ?_)))));have hR:r=(⟨(x1).l,((x1).to+1),(x1).e,(x1).at_⟩:fD):=hrx.trans ((if_neg QS).trans (if_pos (by simpa using QT)));rw [hR];have hs:=hs.p2.dO (Ψ:=(λ w=>cA.dr w (⟨xm,((x1).to+1),(x1).e,(x1).at_⟩:dQ) (⟨(x1).l,((x1).to+1),(x1).e,(x1).at_⟩:fD))) (λ w h=>⟨_,rfl,kU (h)⟩)
         have hs:=((hs.p1.drop).p1).drop;exact ⟨_,rfl,hs.fresh⟩
      ·have Qf:=LS hr (by omega) ht m7 nF nA;refine aQ fC (hL.ext hs.aF) (by omega) ht (λ _ akr=>bT (t).kind kZ akr rfl rfl (λ _ aks=>aD bL (aks) (aH (aC (λ I8=>?_) (λ I8=>?_)))))
       ·refine aQ fC (hL.ext hs.aF) (by omega) ht (λ _ akt=>bT (t).n qV akt rfl rfl (λ _ aku=>have hs:=hs.drew;aD bL (aku) (aQ fC (hL.ext hs.aF) (by omega) ht (λ _ akv=>bT (t).at_ ld akv rfl rfl (λ _ Ns=>aD bL (Ns) (pop (Ie _ _ _) (aO (by omega) (bW ([(⟨1,(t).n,(ByteArray.mk #[]),(t).at_⟩:cX)]) hs lP rfl rfl (eJ rfl) (λ aji w29 hs=>?_)))))))));obtain ⟨QV,rfl⟩:=(hs).fQ;refine pop (yr _ _ _ _) (aI (x:=(⟨QV,(i+1),0,0⟩:dQ)) hs.p1 fS rfl rfl (λ w30 hs=>aD fS hs.At ?_));have hR:r=(⟨[(⟨1,(t).n,(ByteArray.mk #[]),(t).at_⟩:cX)],(i+1),0,0⟩:fD):=Qf.trans (if_pos I8)
        rw [hR];have hs:=hs.p1.freeze.dO (Ψ:=(λ w=>cA.dr w (⟨QV,(i+1),0,0⟩:dQ) (⟨[(⟨1,(t).n,(ByteArray.mk #[]),(t).at_⟩:cX)],(i+1),0,0⟩:fD))) (λ w h=>⟨_,rfl,DL.fq h⟩);have hs:=(hs.p1).drop;exact ⟨_,rfl,hs.fresh⟩
       ·refine ⟨λ jv w'=>jv = .bool (decide (t.kind=1) && jX t.text)∧St w bD [cD N3 (Flat.enc (⟨⟨none,0,0⟩,0,0,0⟩:dQ))] w',?_,?_⟩
        ·refine aQ fC (hL.ext hs.aF) (by omega) ht (λ _ akw=>bT (t).kind kZ akw rfl rfl (λ _ akx=>aD bL (akx) (aH (aC (λ yB=>?_) (λ yB=>?_)))))
         ·refine aQ fC (hL.ext hs.aF) (by omega) ht (λ _ aky=>bT (t).text mX aky rfl rfl (λ _ akz=>aD j4 (akz) (aZ tA hs (C161 _ _ (by omega)) (λ w31 he hs=>?_))));exact ⟨vb (by rw [decide_eq_true yB]; rfl),hs⟩
         ·exact ⟨vb (by rw [decide_eq_false yB]; rfl),hs⟩
        ·rintro _ w32 ⟨rfl,hs⟩ GJ;refine aX (λ EN=>?_) (λ EN=>?_)
         ·refine aQ fC (hL.ext hs.aF) (by omega) ht (λ _ akA=>bT (t).text mX akA rfl rfl (λ _ akB=>have hs:=hs.drew;aD j4 (akB) (aQ fC (hL.ext hs.aF) (by omega) ht (λ _ akC=>bT (t).at_ ld akC rfl rfl (λ _ Nu=>aD bL (Nu) (pop (Ig _ _ _) (aO (by omega) (bW ([(⟨2,0,(t).text,(t).at_⟩:cX)]) hs lP rfl rfl (eJ rfl) (λ ayJ w33 hs=>?_)))))))));obtain ⟨QW,rfl⟩:=(hs).fQ;refine pop (yr _ _ _ _) (aI (x:=(⟨QW,(i+1),0,0⟩:dQ)) hs.p1 fS rfl rfl (λ w34 hs=>aD fS hs.At ?_));have hR:r=(⟨[(⟨2,0,(t).text,(t).at_⟩:cX)],(i+1),0,0⟩:fD):=Qf.trans ((if_neg I8).trans (if_pos EN))
          rw [hR];have hs:=hs.p1.freeze.dO (Ψ:=(λ w=>cA.dr w (⟨QW,(i+1),0,0⟩:dQ) (⟨[(⟨2,0,(t).text,(t).at_⟩:cX)],(i+1),0,0⟩:fD))) (λ w h=>⟨_,rfl,DL.fq h⟩);have hs:=(hs.p1).drop;exact ⟨_,rfl,hs.fresh⟩
         ·refine eu Pu (C263 _ l i 5 _ (hL.ext hs.aF) hk) ?_;rintro _ w35 ⟨atv,rfl,bY⟩;have hs:=hs.made bY;obtain ⟨LV,adw,_⟩:=(hs).eS;subst adw;refine aI (x:=(⟨LV,((gi l i 5)).to,((gi l i 5)).e,((gi l i 5)).at_⟩:dQ)) hs.p1 fS rfl rfl (λ w36 hs=>aD fS hs.At ?_);have hR:r=(⟨((gi l i 5)).l,((gi l i 5)).to,((gi l i 5)).e,((gi l i 5)).at_⟩:fD):=Qf.trans ((if_neg I8).trans (if_neg (by simpa using EN)));rw [hR];have hs:=hs.p1.dO (Ψ:=(λ w=>cA.dr w (⟨LV,((gi l i 5)).to,((gi l i 5)).e,((gi l i 5)).at_⟩:dQ) (⟨((gi l i 5)).l,((gi l i 5)).to,((gi l i 5)).e,((gi l i 5)).at_⟩:fD))) (λ w h=>⟨_,rfl,kU (h)⟩)
          have hs:=(hs.p1).drop;exact ⟨_,rfl,hs.fresh⟩
theorem Xo {l:List bF} {i:Int} {R:List cX × Int × Int × Int} (h:vw l i=some R) (hi:¬ i<0):∃ x,Hg l 10000 i 0 0=some x∧
  (if x.e≠0 then some ([],0,x.e,x.at_) else match yu x.l,l[i.toNat]? with
  | some t,some k=>if x.l.length≤10000 then (if 12<t.depth then some ([],0,7,k.at_) else if 40<x.l.length then some ([],0,2,k.at_) else some (x.l,x.to,0,0)) else none
  | _,_=>none)=some R:=by
 unfold vw at h; rw [if_neg hi] at h
 cases hx:Hg l 10000 i 0 0 with
 | none=>rw [hx] at h; cases h
 | some x=>rw [hx] at h; exact ⟨x,rfl,h⟩
theorem Ox {x:fD} {o:Option bF} {R:List cX × Int × Int × Int} (h:(match yu x.l,o with
  | some t,some k=>if x.l.length≤10000 then (if 12<t.depth then some ([],0,7,k.at_) else if 40<x.l.length then some ([],0,2,k.at_) else some (x.l,x.to,0,0)) else none
  | _,_=>none)=some R):∃ t k,yu x.l=some t∧o=some k∧x.l.length≤10000∧(if 12<t.depth then some ([],0,7,k.at_) else if 40<x.l.length then some ([],0,2,k.at_) else some (x.l,x.to,0,0))=some R:=by
 cases he:yu x.l with
 | none=>rw [he] at h; cases h
 | some t=>
  cases o with
  | none=>rw [he] at h; cases h
  | some k=>
   rw [he] at h; dsimp only at h
   split at h
   ·rename_i hl; exact ⟨t,k,rfl,rfl,hl,h⟩
   ·cases h
set_option maxHeartbeats 2000000 in
theorem C235 (l:List bF) (j:Nat) (lv:Value) (i d n:Int) (r:fD) (w:World) (hL:eF (λ _=>True) w lv l) (hk:ir l) (HR:akl l (Hg l j)) (h0:0≤i∧i≤l.length) (hd:0≤d∧d≤12) (hnn:0≤n∧n≤5) (hr:Hg l (j+1) i d n=some r):CR 235 [lv,.int .i64 i,.int .i64 d,.int .i64 n] w (λ v w'=>∃ sh:dQ,v=Flat.val sh∧lW (eS (λ w=>cA.dr w sh r)) w w'):=by
 have Fu:=hk.n;have hn:l.length≤1000000:=by omega
 have sS:=hk.at_;have hs:=St.start w;refine aaI _ _ _ _ _ _ ?_;unfold S235;refine aN hs r8 (λ Bb w1 hs=>have hs:=hs.enc (cs':=Flat.enc (⟨⟨none,0,0⟩,0,0,0⟩:dQ)) rfl;aH (aC (λ jG=>?_) (λ jG=>?_)))
 ·refine eu aeO (C257 l (Hg l j) _ i d r _ (hL.ext hs.aF) hk HR h0 hd (agl (by rw [jG] at hr; exact hr))) ?_;rintro _ w2 ⟨akm,rfl,bY⟩;have hs:=hs.made bY;obtain ⟨AF,Ov,_⟩:=(hs).eS;subst Ov;refine aI (x:=(⟨AF,(r).to,(r).e,(r).at_⟩:dQ)) hs.p1 fS rfl rfl (λ w3 hs=>aD fS hs.At ?_);have hR:r=(⟨(r).l,(r).to,(r).e,(r).at_⟩:fD):=rfl;rw [hR];have hs:=hs.p1.dO (Ψ:=(λ w=>cA.dr w (⟨AF,(r).to,(r).e,(r).at_⟩:dQ) (⟨(r).l,(r).to,(r).e,(r).at_⟩:fD))) (λ w h=>⟨_,rfl,kU (h)⟩);have hs:=(hs.p1).drop;exact ⟨_,rfl,hs.fresh⟩
 ·obtain ⟨x1,hx1,ayK⟩:=aru hr jG;refine aO (by omega) (eu Pt ((HR _ i d (n+1) x1 _ (hL.ext hs.aF) hx1 h0 hd (by omega)).1) ?_);rintro _ w4 ⟨ayL,rfl,bY⟩;have hs:=hs.made bY;obtain ⟨I9,akD,_⟩:=(hs).eS;subst akD;refine aN hs r8 (λ DV w5 hs=>have hs:=hs.enc (cs':=Flat.enc (⟨⟨none,0,0⟩,0,0,0⟩:dQ)) rfl;aI (x:=(⟨I9,(x1).to,(x1).e,(x1).at_⟩:dQ)) hs fS rfl rfl (λ w6 hs=>?_));have hs:=hs.p2.p2.p2.p1.dO (Ψ:=λ w=>DL w (Flat.val I9) (x1).l) (λ w h=>kU h);have hs:=hs.p2.p1.p2;refine ⟨λ mm w'=>∃ (x:fD) (g:SV),vv (Hg l j) l d n mm x=some r∧St w bD [cD DV (Flat.enc (⟨g,(x).to,(x).e,(x).at_⟩:dQ)),eS (λ w=>DL w (Flat.val g) (x).l),cD Bb (Flat.enc (⟨⟨none,0,0⟩,0,0,0⟩:dQ))] w',⟨j,x1,I9,ayK,hs⟩,?_⟩
  rintro mm w7 ⟨x,g,LW,hs⟩ fB;obtain ⟨j2,rfl⟩:=Ot LW;refine aA tP (aB (v:=.int .i64 (x).e) nj hs.hb rfl (aH (aC (λ Lr=>?_) (λ Lr=>?_))))
  ·have hs:=hs.p2.p2.p2;refine ⟨λ mm o kk w'=>∃ k:Nat,o = .int .i64 (E8 l x.to n k)∧kk = .int .i64 (k:Int)∧mm=(qc n).length - k∧k≤(qc n).length∧St w bD [cD DV (Flat.enc (⟨g,(x).to,(x).e,(x).at_⟩:dQ)),eS (λ w=>DL w (Flat.val g) (x).l),cD Bb (Flat.enc (⟨⟨none,0,0⟩,0,0,0⟩:dQ))] w',⟨_,0,rfl,rfl,rfl,Nat.zero_le _,hs⟩,?_⟩;rintro mm _ _ w8 ⟨k,rfl,rfl,rfl,KE,hs⟩ jw;have hfl4:=Ou n;refine dB T7 hs (C258 n _ (by omega)) (λ x31 w9 bY hs=>aJ ei (hs).fI (aR (aC (λ nz=>?_) (λ nz=>?_))))
   ·refine ⟨λ jv w'=>jv = .int .i64 (E8 l x.to n (k+1))∧St w bD [cD DV (Flat.enc (⟨g,(x).to,(x).e,(x).at_⟩:dQ)),eS (λ w=>DL w (Flat.val g) (x).l),cD Bb (Flat.enc (⟨⟨none,0,0⟩,0,0,0⟩:dQ))] w',?_,?_⟩
    ·refine aA nW (have hs:=hs.drew;aB (v:=.int .i64 (x).to) bL hs.p1.hb rfl (dB T7 hs (C258 n _ (by omega)) (λ x40 pP bY hs=>?_)));refine ⟨aG bL (hs.p2.hb.cell rfl),?_⟩;obtain ⟨agn,E9⟩:=gx ((qc n)) (i:=((k:Int)).toNat) (by omega);refine dT hs ei (by omega) (by omega) (λ _ arw=>gj hs bL arw E9 ?_);have hfb:=Xl E9;refine aZ anV hs (C259 agn _ (by omega)) (λ sQ he hs=>?_);refine ⟨aG bL (hs.p2.hb.cell rfl),?_⟩;refine aZ vj hs (C211 _ l (x).to (LP agn) _ (hL.ext hs.aF) hn) (λ vl he hs=>aX (λ kG=>?_) (λ kG=>?_))
     ·refine dB T7 hs (C258 n _ (by omega)) (λ x47 vm bY hs=>dT hs ei (by omega) (by omega) (λ _ Em=>gj hs bL Em E9 ?_));have hs:=(((((((hs.drop)).drop)).drop).p2).p2).p2;exact ⟨by rw [Hf (k:=k) E9,if_pos kG] <;> rfl,hs⟩
     ·have hs:=(((((hs.drop)).drop).p2).p2).p2;exact ⟨by rw [Hf (k:=k) E9,if_neg (by simpa using kG)] <;> rfl,hs⟩
    ·rintro _ sd ⟨rfl,hs⟩ oN;refine aO (by omega) ?_;exact ⟨_,by omega,k+1,rfl,rfl,rfl,by omega,hs⟩
   ·have jN:E8 l x.to n k=I7 l x.to n:=by unfold I7; rw [show k=(qc n).length from by omega]
    refine aH (aC (λ so=>?_) (λ so=>?_))
    ·refine aD fS hs.p1.At (aI (x:=(⟨g,(x).to,(x).e,(x).at_⟩:dQ)) hs.p3 fS rfl rfl (λ v7 hs=>aD fS hs.At ?_));have hR:r=(⟨(x).l,(x).to,(x).e,(x).at_⟩:fD):=Xm (x:=x) LW (by omega) (by rw [← jN]; exact so);rw [hR];have hs:=hs.p3.dO (Ψ:=(λ w=>cA.dr w (⟨g,(x).to,(x).e,(x).at_⟩:dQ) (⟨(x).l,(x).to,(x).e,(x).at_⟩:fD))) (λ w h=>⟨_,rfl,id (h)⟩);have hs:=(((hs.p1.drop.p1).drop).p1).drop;exact ⟨_,rfl,hs.fresh⟩
    ·obtain ⟨t,y,h0t,ht,hy,hye,hyn⟩:=Xn LW (by omega) (by rw [← jN]; exact so);have MW:=(List.getElem?_eq_some_iff.1 ht).1;refine aA nW (aB (v:=.int .i64 (x).to) bL hs.p1.hb rfl (aO (by omega) (aO (by omega) (eu Pt ((HR _ (x.to+1) d (n+1) y _ (hL.ext hs.aF) hy (by omega) hd (by omega)).1) ?_))));rintro _ yT ⟨ayN,rfl,bY⟩;have hs:=hs.made bY;obtain ⟨CU,akE,_⟩:=(hs).eS;subst akE;refine aN hs r8 (λ b_y12 Ch hs=>have hs:=hs.enc (cs':=Flat.enc (⟨⟨none,0,0⟩,0,0,0⟩:dQ)) rfl;aI (x:=(⟨CU,(y).to,(y).e,(y).at_⟩:dQ)) hs fS rfl rfl (λ Im hs=>aA tP (aB (v:=.int .i64 (y).e) nj hs.hb rfl (cS (aC (λ qn=>?_) (λ qn=>?_))))))
     ·refine aD fS hs.At (aI (x:=(⟨CU,(y).to,(y).e,(y).at_⟩:dQ)) hs.p5 fS rfl rfl (λ Jp hs=>aD fS hs.At ?_));have hR:r=(⟨(y).l,(y).to,(y).e,(y).at_⟩:fD):=hye qn;rw [hR];have hs:=hs.p2.dO (Ψ:=(λ w=>cA.dr w (⟨CU,(y).to,(y).e,(y).at_⟩:dQ) (⟨(y).l,(y).to,(y).e,(y).at_⟩:fD))) (λ w h=>⟨_,rfl,kU (h)⟩);have hs:=(((((hs.p1.drop.p1.drop.p1).drop).p1).drop).p1).drop;exact ⟨_,rfl,hs.fresh⟩
     ·refine aA nW (aB (v:=.int .i64 (x).to) bL hs.p3.hb rfl (aQ fC (hL.ext hs.aF) (by omega) ht (λ _ Lh=>bT (t).at_ ld Lh rfl rfl (λ _ arx=>aD bL (arx) (pop (DC _ _) (bW ([(⟨(E8 l x.to n k),0,(ByteArray.mk #[]),(t).at_⟩:cX)]) hs lP rfl rfl (eJ rfl) (λ afm Kz hs=>aA qW (aB (v:=Flat.val (g:SV)) mR hs.p4.hb rfl ?_))))))));have Nj:=(hyn (by omega)).1;have akF:=(DL.flat (id (hs.p5).eS));refine cN hs lP akF (by simp; omega) (by decide) (λ apX Mu hs=>aA qW (aB (v:=Flat.val (CU:SV)) mR hs.p1.hb rfl ?_));have akG:=(DL.flat (kU (hs.p2).eS))
      refine cN hs lP akG (by simp; omega) (by decide) (λ s_x82 Qm hs=>aA nW (aB (v:=.int .i64 (y).to) bL hs.p1.hb rfl ?_));obtain ⟨Fa,rfl⟩:=(hs).fQ;refine pop (yr _ _ _ _) (aI (x:=(⟨Fa,(y).to,0,0⟩:dQ)) hs.p4 fS rfl rfl (λ Tn hs=>aH (aC (λ Eu=>?_) (λ Eu=>?_))))
      ·refine aD fS hs.At (aI (x:=(⟨Fa,(y).to,0,0⟩:dQ)) hs.p6 fS rfl rfl (λ VG hs=>aD fS hs.At ?_));have hR:r=(⟨(([(⟨(E8 l x.to n k),0,(ByteArray.mk #[]),(t).at_⟩:cX)]++(x).l)++(y).l),(y).to,0,0⟩:fD):=((hyn (by omega)).2.1 Eu).trans (by rw [← jN]);rw [hR];have hs:=hs.p2.freeze.dO (Ψ:=(λ w=>cA.dr w (⟨Fa,(y).to,0,0⟩:dQ) (⟨(([(⟨(E8 l x.to n k),0,(ByteArray.mk #[]),(t).at_⟩:cX)]++(x).l)++(y).l),(y).to,0,0⟩:fD))) (λ w h=>⟨_,rfl,DL.fq h⟩);have hs:=((((((hs.p1.drop.p1.drop.p1.drop).p1).drop).p1).drop).p1).drop;exact ⟨_,rfl,hs.fresh⟩
      ·have hs:=hs.p1.freeze.dO (Ψ:=λ w=>DL w (Flat.val Fa) ([(⟨E8 l x.to n k,0,ByteArray.mk #[],t.at_⟩:cX)]++x.l++y.l)) (λ w h=>DL.fq h);have hs:=((((hs.p2.drop.p2.drop.p2.drop.p2).drop).p2).p1).p2;have vt:=(hyn (by omega)).2.2 Eu;rw [← jN] at vt;exact ⟨_,by omega,⟨_,_,_,_⟩,Fa,vt,hs⟩
  ·refine aD fS hs.At (aI (x:=(⟨g,(x).to,(x).e,(x).at_⟩:dQ)) hs.p2 fS rfl rfl (λ R4 hs=>aD fS hs.At ?_));have hR:r=(⟨(x).l,(x).to,(x).e,(x).at_⟩:fD):=adu (x:=x) LW (by omega);rw [hR];have hs:=hs.p2.dO (Ψ:=(λ w=>cA.dr w (⟨g,(x).to,(x).e,(x).at_⟩:dQ) (⟨(x).l,(x).to,(x).e,(x).at_⟩:fD))) (λ w h=>⟨_,rfl,id (h)⟩);have hs:=((hs.p1.drop).p1).drop;exact ⟨_,rfl,hs.fresh⟩
theorem akH {l:List bF} (hk:ir l):∀ j,akl l (Hg l j)
 | 0=>λ lv i d n r w hL hr=>by cases hr
 | j+1=>λ lv i d n r w hL hr h0 hd hn=>⟨C235 l j lv i d n r w hL hk (akH hk j) h0 hd hn hr,λ h5=>by subst h5; exact C257 l (Hg l j) lv i d r w hL hk (akH hk j) h0 hd (agl hr)⟩
theorem C214 (l:List bF) (lv:Value) (i:Int) (R:List cX × Int × Int × Int) (w:World) (hL:eF (λ _=>True) w lv l) (hk:ir l) (hil:i≤l.length) (hr:vw l i=some R):CR 214 [lv,.int .i64 i] w (λ v w'=>∃ sv:SV,v = .tuple #[Flat.val sv,.int .i64 R.2.1,.int .i64 R.2.2.1,.int .i64 R.2.2.2]∧lW (eS (λ w=>DL w (Flat.val sv) R.1)) w w'):=by
 have Fu:=hk.n;have hn:l.length≤1000000:=by omega
 have sS:=hk.at_;have hs:=St.start w;refine aao _ _ _ _ ?_;unfold S214;refine aR (aC (λ fO=>?_) (λ fO=>?_))
 ·have hR:R=([],0,1,0):=by
   unfold vw at hr; rw [if_pos fO] at hr; exact (Option.some.inj hr).symm
  rw [hR];exact ⟨⟨none,0,0⟩,rfl,(hs.gE (Φ:=λ w=>DL w (Flat.val (⟨none,0,0⟩:SV)) ([]:List cX)) λ w=>DL.nil w).fresh⟩
 ·obtain ⟨x,hx,Gh⟩:=Xo hr (by omega);refine eu Pt ((akH hk 10000 _ i 0 0 x _ (hL.ext hs.aF) hx (by omega) (by omega) (by omega)).1) ?_;rintro _ w1 ⟨ayO,rfl,bY⟩;have hs:=hs.made bY;obtain ⟨xn,akI,_⟩:=(hs).eS;subst akI;refine aN hs r8 (λ Bb w2 hs=>have hs:=hs.enc (cs':=Flat.enc (⟨⟨none,0,0⟩,0,0,0⟩:dQ)) rfl;aI (x:=(⟨xn,(x).to,(x).e,(x).at_⟩:dQ)) hs fS rfl rfl (λ w3 hs=>aA tP (aB (v:=.int .i64 (x).e) nj hs.hb rfl (cS (aC (λ eB=>?_) (λ eB=>?_))))))
  ·refine aA tP (have hs:=hs.drew;aB (v:=.int .i64 (x).e) nj hs.hb rfl (aA Uc (aB (v:=.int .i64 (x).at_) bL hs.hb rfl ?_)))
   have hR:R=([],0,x.e,x.at_):=by
    rw [if_pos eB] at Gh; exact (Option.some.inj Gh).symm
   rw [hR];exact ⟨⟨none,0,0⟩,rfl,(hs.gE (Φ:=λ w=>DL w (Flat.val (⟨none,0,0⟩:SV)) ([]:List cX)) λ w=>DL.nil w).fresh⟩
  ·rw [if_neg eB] at Gh;obtain ⟨tr,tk,htr,SF,O6,hr3⟩:=Ox Gh;have htki:=(List.getElem?_eq_some_iff.1 SF).1;obtain ⟨hwf,Ce⟩:=yw htr;have hAt:Jq x.l 0 tr:=⟨by omega,hwf,[],by simpa using Ce⟩;refine aA qW (aB (v:=Flat.val (xn:SV)) mR hs.hb rfl (aZ T3 hs (C162 _ x.l 0 tr (tr.size+1) _ (DL.flat (kU (hs.p1).eS)) (by omega) hAt (by omega)) (λ w4 he hs=>dA (aC (λ iB=>?_) (λ iB=>?_)))))
   ·refine aQ fC (hL.ext hs.aF) (by omega) SF (λ _ we=>bT (tk).at_ ld we rfl rfl (λ _ wj=>have hs:=hs.drew;aD bL (wj) ?_))
    have hR:R=([],0,7,tk.at_):=by
     rw [if_pos iB] at hr3; exact (Option.some.inj hr3).symm
    rw [hR];exact ⟨⟨none,0,0⟩,rfl,(hs.gE (Φ:=λ w=>DL w (Flat.val (⟨none,0,0⟩:SV)) ([]:List cX)) λ w=>DL.nil w).fresh⟩
   ·refine aA qW (aB (v:=Flat.val (xn:SV)) mR hs.hb rfl (aJ lP (DL.flat (kU (hs.p1).eS)) (dA (aC (λ nz=>?_) (λ nz=>?_)))))
    ·refine aQ fC (hL.ext hs.aF) (by omega) SF (λ _ tW=>bT (tk).at_ ld tW rfl rfl (λ _ zS=>have hs:=hs.drew;aD bL (zS) ?_))
     have hR:R=([],0,2,tk.at_):=by
      rw [if_neg iB,if_pos (by omega)] at hr3; exact (Option.some.inj hr3).symm
     rw [hR];exact ⟨⟨none,0,0⟩,rfl,(hs.gE (Φ:=λ w=>DL w (Flat.val (⟨none,0,0⟩:SV)) ([]:List cX)) λ w=>DL.nil w).fresh⟩
    ·refine aA qW (have hs:=hs.drew;aB (v:=Flat.val (xn:SV)) mR hs.hb rfl (aA nW (aB (v:=.int .i64 (x).to) bL hs.hb rfl ?_)));have hs:=hs.p1.dO (Ψ:=λ w=>DL w (Flat.val xn) x.l) (λ w h=>kU h)
     have hR:R=(x.l,x.to,0,0):=by
      rw [if_neg iB,if_neg (by omega)] at hr3; exact (Option.some.inj hr3).symm
     rw [hR];exact ⟨xn,rfl,hs.fresh⟩
end Go.Proofs.YtnjcingfdhjfkaaGreat

/-
 Part 6.
-/
import Derived.Test.YtnjcingfdhjfkaaGreatVfM5
set_option linter.all false
namespace Go.Proofs.YtnjcingfdhjfkaaGreat
open Go.Fw
theorem OI (m:gp) (i:Nat) (t:fG):(tB m i t).length≤1+t.buf.length:=by
 have:=Hs t.buf
 unfold tB; split <;> simp <;> omega
theorem wS {m:gp} (h:qE m):∀ k,(kZ m k).length≤k * 1001
 | 0=>by simp [kZ]
 | k+1=>by
  have ih:=wS h k
  cases ht:m.l[k]? with
  | none=>
   have e:kZ m (k+1)=kZ m k:=by unfold kZ; rw [List.range_succ,List.flatMap_append]; simp [ht]
   rw [e]; exact Nat.le_trans ih (Nat.mul_le_mul_right 1001 (Nat.le_succ k))
  | some t=>
   rw [AP ht,List.length_append]
   have:=OI m k t
   have:=(h.th t (List.mem_of_getElem? ht)).bl
   omega
def AQ (m:gp) (i:Int):List Int:=if 0≤i then (match m.l[i.toNat]? with | some t=>t.aK | none=>[]) else []
def CN (m:gp) (i:Int):List bJ:=if 0≤i then (match m.l[i.toNat]? with | some t=>t.buf | none=>[]) else []
theorem XI {m:gp} {i:Int} {t:fG} (h0:0≤i) (h:m.l[i.toNat]? = some t):AQ m i=t.aK:=by unfold AQ; rw [if_pos h0,h]
theorem Ra {m:gp} {i:Int} {t:fG} (h0:0≤i) (h:m.l[i.toNat]? = some t):CN m i=t.buf:=by unfold CN; rw [if_pos h0,h]
theorem S0 {m:gp} {i:Int} (h:i<0∨m.l.length≤i):AQ m i=[]:=by
 unfold AQ; split
 ·rw [List.getElem?_eq_none (by omega)]
 ·rfl
theorem XJ {m:gp} {i:Int} (h:i<0∨m.l.length≤i):CN m i=[]:=by
 unfold CN; split
 ·rw [List.getElem?_eq_none (by omega)]
 ·rfl
def ad5:List Int→Int→Int
 | [],n=>n
 | c::cs,n=>ad5 cs (rf (rf (n * 10000)+c))
def yC (l:List Int) (k:Nat):Int:=ad5 (l.take k) 0
theorem Ht:∀ (l:List Int) (c n:Int),ad5 (l++[c]) n=rf (rf (ad5 l n * 10000)+c)
 | [],_,_=>rfl
 | x::l,c,n=>Ht l c _
theorem OJ {l:List Int} {k:Nat} {c:Int} (h:l[k]? = some c):yC l (k+1)=rf (rf (yC l k * 10000)+c):=by
 unfold yC; rw [List.take_add_one,h]; exact Ht _ _ _
def jy (p q:eo):Bool:=decide (q.kind=p.kind) && decide (q.t=p.t) && decide (q.i=p.i) && decide (p.cut.length=0)
def pk3 (s:SV):dE:=⟨3,0,0,s⟩
theorem ad6 {w:World} {ss:List SV} {cs:List (List Int)} (h:jV ss cs w):jV (ss.map pk3) (cs.map λ c=>(⟨3,0,0,c⟩:eo)) w:=by
 refine ⟨by simp [h.1],λ i t x a b=>?_⟩
 rw [List.getElem?_map] at a b
 cases hs:ss[i]? with
 | none=>rw [hs] at a; cases a
 | some s=>
  cases hc:cs[i]? with
  | none=>rw [hc] at b; cases b
  | some c=>
   rw [hs] at a; rw [hc] at b
   simp at a b; subst a b
   exact ⟨s,rfl,h.2 i s c hs hc⟩
theorem C16 (K:World→Prop) (p:Nat) (m:gp) (w:World) (hm:Has (eJ K p m) w) (hw:K w) (uM:∀ w',Ext w w'→K w') (lZ:qE m):CR 16 [(.pointer (some ⟨p,0,none⟩))] w (λ v w'=>lY (fq v (cQ m)) w w'):=by
 obtain ⟨a,hr⟩:=eJ.rd hm hw;have Zf:=hr.b.cell (o:=8) rfl;have cm0:=hr.b.cell (o:=0) rfl;have XH:=hr.b.cell (o:=1) rfl;have cm3:=hr.b.cell (o:=3) rfl;have cm9:=hr.b.cell (o:=9) rfl;have B0:=hr.b.cell (o:=10) rfl;have CM:=hr.b.cell (o:=11) rfl;have yi:=hr.b.cell (o:=12) rfl;have Fq:=hr.b.cell (o:=13) rfl;have zh:=hr.b.cell (o:=14) rfl;have Fs:=hr.b.cell (o:=15) rfl;have hs:=St.start w;refine ahz _ _ _ ?_;unfold S16;refine aE (aA nX (cE bL (zh.ext hs.aF) (cR (aC (λ j8=>?_) (λ j8=>?_)))))
 ·have hpm:cQ m=[]:=by unfold cQ; rw [if_pos j8]
  rw [hpm];exact hs.xY.fresh
 ·refine aE (aA jm (cE pI (yi.ext hs.aF) (aJ qw (hr.ll.ext hs.aF) ?_)));have hs:=hs.xY (α:=eo);refine ⟨λ mm o x w1=>∃ k:Nat,x = .int .i64 (k:Int)∧mm=a.ps.length - k∧k≤a.ps.length∧St w bD [fq o (kZ m k)] w1,⟨_,0,rfl,rfl,Nat.zero_le _,hs⟩,?_⟩;rintro mm ga _ w1 ⟨k,rfl,rfl,hk,hs⟩ fD;refine aR (aC (λ fB=>?_) (λ fB=>?_))
  ·obtain ⟨XK,vp⟩:=gx (a.ps) (i:=((k:Int)).toNat) (by omega);refine aQ qw hr.ll (by omega) vp (λ _ wK=>?_);obtain ⟨t,ht⟩:∃ t,m.l[k]? = some t:=⟨_,List.getElem?_eq_getElem (by have:=hr.len; omega)⟩;have Bf:=List.mem_of_getElem? ht;have yR:=(lZ.th t Bf).bl;have vv:=wS lZ k;have QO:=Hs t.buf;have Lh:=hr.len;have Nv:=lZ.tl;refine aD zT (wK.ext hs.aF) ?_;refine ⟨λ o w'=>St w bD [fq o (kZ m k++(if AO m t=true then [(⟨1,(k:Int),0,[]⟩:eo)] else []))] w',?_,?_⟩
   ·refine aZ avr hs (C56 K p m XK.b t _ (hm.ext hs.aF) (uM _ hs.aF) (λ w2 e=>uM _ (Ext.trans hs.aF e)) lZ ((hr.th k _ _ vp ht).ext hs.aF) Bf) (λ w2 he hs=>aX (λ fT=>?_) (λ fT=>?_))
    ·refine pop (GQ _ _) (have hs:=hs.gK (Φ:=(λ w=>bZ.dr w (⟨1,(k:Int),0,⟨none,0,0⟩⟩:dE) (⟨1,(k:Int),0,[]⟩:eo))) (λ w=>⟨_,rfl,DL.nil _⟩);eQ (s:=(⟨1,(k:Int),0,⟨none,0,0⟩⟩:dE)) (x:=(⟨1,(k:Int),0,[]⟩:eo)) hs nV (by decide) (λ af4 w3 hs=>have hs:=hs.p1;ej hs nV (by simp; omega) (by decide) (λ s_x30 w4 hs=>?_)));rw [fT,if_pos rfl];exact hs
    ·rw [fT,if_neg (by decide),List.append_nil];exact hs
   ·intro nq w5 hs jH;obtain ⟨bp,gl,rg,cn,_,oC,hB,BJ,Ze⟩:=eI.rd (hr.th k _ _ vp ht);have XG:=oC.cell (o:=0) rfl;have ct5:=oC.cell (o:=5) rfl;have ct6:=oC.cell (o:=6) rfl;refine aE (aA mZ (cE qY (XG.ext hs.aF) (dF avs hs (C57 bp _ _ _ (hB.ext hs.aF) (by omega)) (λ x35 w6 cA hs=>?_))));have hxx:=trivial;refine aJ eh (hs).fF ?_;have hs:=hs.p1.p1;refine ⟨λ mm o x w1=>∃ j:Nat,x = .int .i64 (j:Int)∧mm=(AB t.buf).length - j∧j≤(AB t.buf).length∧St w bD [bK x35 (AB t.buf),fq o ((kZ m k++(if AO m t=true then [(⟨1,(k:Int),0,[]⟩:eo)] else []))++((AB t.buf).take j).map λ i=>(⟨2,(k:Int),i,[]⟩:eo))] w1,⟨_,0,rfl,rfl,Nat.zero_le _,by simpa using hs⟩,?_⟩
    rintro mm Nm _ w7 ⟨j,rfl,rfl,hj,hs⟩ oY;refine aR (aC (λ nh=>?_) (λ nh=>?_))
    ·obtain ⟨qD,qk⟩:=gx ((AB t.buf)) (i:=((j:Int)).toNat) (by omega);refine dS hs eh (by omega) (by omega) (λ _ ui=>fY hs bL ui qk (pop (KM _ _ _) (have hs:=hs.gK (Φ:=(λ w=>bZ.dr w (⟨2,(k:Int),qD,⟨none,0,0⟩⟩:dE) (⟨2,(k:Int),qD,[]⟩:eo))) (λ w=>⟨_,rfl,DL.nil _⟩);eQ (s:=(⟨2,(k:Int),qD,⟨none,0,0⟩⟩:dE)) (x:=(⟨2,(k:Int),qD,[]⟩:eo)) hs nV (by decide) (λ WW w8 hs=>have hs:=hs.p2;ej hs nV (by simp only [List.length_append,List.length_map,List.length_take,List.length_singleton]; split <;> simp <;> omega) (by decide) (λ aq1 w9 hs=>aO (by omega) ?_)))))
     have hs:=hs.p1;refine ⟨_,by omega,j+1,rfl,rfl,by omega,?_⟩;rw [List.append_assoc,iW (k:=j) qk] at hs;exact hs
    ·refine aO (by omega) ?_;have hs:=(hs).drop;refine ⟨_,by omega,k+1,rfl,rfl,by omega,?_⟩;rw [AP ht];unfold tB;rw [List.take_of_length_le (by omega),List.append_assoc] at hs;exact hs
  ·have hpm:cQ m=kZ m a.ps.length:=by unfold cQ; rw [if_neg j8,hr.len]
   rw [hpm,show a.ps.length=k from by omega];exact hs.fresh
theorem C31 (K:World→Prop) (p:Nat) (m:gp) (w:World) (hm:Has (eJ K p m) w) (hw:K w) (uM:∀ w',Ext w w'→K w') (lZ:qE m) (hb:MB m.mem 1000000) (hC:(eV (BX m.mem)).length≤1000000000):CR 31 [(.pointer (some ⟨p,0,none⟩))] w (λ v w'=>lY (fq v (cK m)) w w'):=by
 obtain ⟨a,hr⟩:=eJ.rd hm hw;have Zf:=hr.b.cell (o:=8) rfl;have cm0:=hr.b.cell (o:=0) rfl;have XH:=hr.b.cell (o:=1) rfl;have cm3:=hr.b.cell (o:=3) rfl;have cm9:=hr.b.cell (o:=9) rfl;have B0:=hr.b.cell (o:=10) rfl;have CM:=hr.b.cell (o:=11) rfl;have yi:=hr.b.cell (o:=12) rfl;have Fq:=hr.b.cell (o:=13) rfl;have zh:=hr.b.cell (o:=14) rfl;have Fs:=hr.b.cell (o:=15) rfl;have hs:=St.start w;refine ahK _ _ _ ?_;unfold S31;refine aE (aA nX (cE bL (zh.ext hs.aF) (cR (aC (λ fR=>?_) (λ fR=>?_)))))
 ·have hpm:cK m=[]:=by unfold cK; rw [if_pos fR]
  rw [hpm];exact hs.xY.fresh
 ·refine aE (aA jM (cE sj (B0.ext hs.aF) (eA avE (C82 a.q m.mem _ (hr.mem.ext hs.aF) lZ.mem hb hC) ?_)));rintro x15 w1 cA;have hs:=hs.made cA;obtain ⟨ss,hs⟩:=hs.sq;have hsl:=hs.aiR;have hdl:=Jh (sL m.mem) (eV (BX m.mem));have M6:(Cw m.mem).length=(M5 (sL m.mem) (eV (BX m.mem))).1.length:=rfl;refine aJ yq (hs).fF ?_;have hs:=(((hs.fX (α:=dE)).p2).p2).p2;refine ⟨λ mm o x w1=>∃ k:Nat,x = .int .i64 (k:Int)∧mm=ss.length - k∧k≤ss.length∧St w bD [bK o ((ss.take k).map pk3),bK x15 ss,eL (jV ss (Cw m.mem))] w1,⟨_,0,rfl,rfl,Nat.zero_le _,hs⟩,?_⟩;rintro mm ga _ w2 ⟨k,rfl,rfl,hk,hs⟩ fD
  refine aR (aC (λ gj=>?_) (λ gj=>?_))
  ·obtain ⟨jd,fM⟩:=gx (ss) (i:=((k:Int)).toNat) (by omega);refine dS hs.p1 yq (by omega) (by omega) (λ _ jQ=>fY hs.p1 eB jQ fM (pop (v:=Flat.val (pk3 jd)) (GR _ _ _ _) (bV ([pk3 jd]) hs nV rfl rfl (eK rfl) (λ s_x24 w3 hs=>?_))));have wJ:=(hs).fF;refine cS hs.p1 nV wJ (by simp; omega) (by decide) (λ aql w4 hs=>have hs:=hs.p1.drop;aO (by omega) ?_);have hs:=hs.p2.p2.p2;exact ⟨_,by omega,k+1,rfl,rfl,by omega,by rw [← iW (k:=k) fM]; exact hs⟩
  ·have hs:=(hs.p1.drop).p1;have hpm:cK m=(Cw m.mem).map λ c=>(⟨3,0,0,c⟩:eo):=by unfold cK; rw [if_neg fR]
   rw [List.take_of_length_le (by omega)] at hs;rw [hpm];exact (St.Ea (hs.dU (λ w h=>ad6 h)).p1).fresh
theorem C59 (cv:Value) (cut:List Int) (w:World) (hC:eP (λ _=>True) w cv cut) (akF:cut.length≤1000000):CR 59 [cv] w (λ v w'=>v = .int .i64 (yC cut cut.length)∧Ext w w'):=by
 have hs:=St.start w;refine ah9 _ _ _ ?_;unfold S59;refine aJ eh (hC.ext hs.aF) ?_;refine ⟨λ mm n x w1=>∃ k:Nat,n = .int .i64 (yC cut k)∧x = .int .i64 (k:Int)∧mm=cut.length - k∧k≤cut.length∧St w bD [] w1,⟨_,0,rfl,rfl,rfl,Nat.zero_le _,hs⟩,?_⟩;rintro mm _ _ w1 ⟨k,rfl,rfl,rfl,hk,hs⟩ fD;refine aR (aC (λ gA=>?_) (λ gA=>?_))
 ·obtain ⟨e_x10,XL⟩:=gx (cut) (i:=((k:Int)).toNat) (by omega);refine aQ eh hC (by omega) XL (λ _ qC=>aD bL (qC.ext hs.aF) (KU (KT (aO (by omega) ?_))));exact ⟨_,by omega,k+1,by rw [OJ (k:=k) XL],rfl,rfl,by omega,hs⟩
 ·exact ⟨by rw [show cut.length=k from by omega],hs.aF⟩
theorem C60 (q x:eo) (qv:dE) (b:Nat) (xv:dE) (w:World) (hq:bZ.dr w qv q) (hx:At (λ _=>True) w (.pointer (some ⟨b,0,none⟩)) xv) (hxd:bZ.dr w xv x):CR 60 [Flat.val qv,(.pointer (some ⟨b,0,none⟩))] w (λ v w'=>v = .bool (jy x q)∧Ext w w'):=by
 obtain ⟨Rb,rfl,ad7⟩:=hq;obtain ⟨ad8,rfl,ad9⟩:=hxd;have hs:=St.start w;refine aia _ _ _ _ ?_;unfold S60;refine dJ hs (λ ay5 w1 hs=>?_);refine ⟨λ jv w'=>jv = .bool (jy x q)∧St w bD [cH ay5 (Flat.enc (⟨(q).kind,(q).t,(q).i,Rb⟩:dE))] w',?_,?_⟩
 ·refine aA pz (aB (v:=.int .i64 ((q).kind)) bL hs.hb rfl (bT (x).kind pz hx rfl rfl (λ _ ay6=>aD bL (ay6.ext hs.aF) (aH (aC (λ gu=>?_) (λ gu=>?_))))))
  ·refine aA iG (aB (v:=.int .i64 ((q).t)) bL hs.hb rfl (bT (x).t iG hx rfl rfl (λ _ arM=>aD bL (arM.ext hs.aF) (aH (aC (λ gX=>?_) (λ gX=>?_))))))
   ·refine aA xo (aB (v:=.int .i64 ((q).i)) bL hs.hb rfl (bT (x).i xo hx rfl rfl (λ _ jQ=>aD bL (jQ.ext hs.aF) (aH (aC (λ gz=>?_) (λ gz=>?_))))))
    ·refine bT ad8 si hx rfl rfl (λ _ wq=>aD eB (wq.ext hs.aF) ?_);have arN:=DL.flat (ad9);refine aJ eh (arN.ext hs.aF) (aH ?_);exact ⟨vb (by unfold jy; first | (simp_all; done) | grind),hs⟩
    ·exact ⟨vb (by unfold jy; first | (simp_all; done) | grind),hs⟩
   ·exact ⟨vb (by unfold jy; first | (simp_all; done) | grind),hs⟩
  ·exact ⟨vb (by unfold jy; first | (simp_all; done) | grind),hs⟩
 ·rintro _ w2 ⟨rfl,hs⟩ fD;exact ⟨rfl,hs.drop.aF⟩
theorem C126 (sv fv:Value) (xs:List eo) (φ:eo→Prop) (g:eo→Bool) (w:World) (hL:DL w sv xs) (hf:oe PG w fv φ g) (hφ:∀ x∈xs,φ x) (hn:xs.length≤1073741824):CR 126 [sv,fv] w (λ v w'=>v = .int .i64 (uZ g xs)∧Ext w w'):=by
 obtain ⟨g0,first,cap,rfl,vv,l4⟩:=hf;have hs:=St.start w;refine Z3 _ _ _ _ ?_;unfold S126;obtain ⟨arO,agY,agZ⟩:=(hL).open;have hn127:=agZ.1;refine aJ nV (agY.ext hs.aF) ?_;refine ⟨λ m x w1=>∃ k:Nat,x = .int .i64 (k:Int)∧m=xs.length - k∧k≤xs.length∧(∀ y∈xs.take k,g y=false)∧St w bD [] w1,⟨_,0,rfl,rfl,Nat.zero_le _,by simp,hs⟩,?_⟩;rintro m _ w1 ⟨k,rfl,rfl,hk,fV,hs⟩ fD;refine aR (aC (λ gA=>?_) (λ gA=>?_))
 ·obtain ⟨js,dI⟩:=gx arO (i:=((k:Int)).toNat) (by omega);obtain ⟨Cq,j0⟩:=gx (xs) (i:=((k:Int)).toNat) (by omega);obtain ⟨S1,rfl,S2⟩:=agZ.2 _ _ _ dI j0;refine aQ nV agY (by omega) dI (λ _ iU=>aD l6 (iU.ext hs.aF) (gh vv (l4 _ Cq w1 hs.aF ⟨S1,rfl,(S2.ext hs.aF)⟩ (hφ _ (List.mem_of_getElem? j0))) ?_));rintro _ w2 ⟨rfl,he⟩;have hs:=hs.ext he;refine aX (λ eE=>?_) (λ eE=>?_)
  ·exact ⟨congrArg (Value.int .i64) (pB fV j0 eE).symm,hs.aF⟩
  ·refine aO (by omega) ?_;exact ⟨_,by omega,k+1,rfl,rfl,by omega,eH fV j0 eE,hs⟩
 ·exact ⟨congrArg (Value.int .i64) (kC (by rw [List.take_of_length_le (by omega)] at fV; exact fV)).symm,hs.aF⟩
theorem C61 (sv fv:Value) (xs:List eo) (φ:eo→Prop) (g:eo→Bool) (w:World) (hL:DL w sv xs) (hf:oe PG w fv φ g) (hφ:∀ x∈xs,φ x) (hn:xs.length≤1073741824):CR 61 [sv,fv] w (λ v w'=>v = .bool (xs.any g)∧Ext w w'):=by
 have hs:=St.start w;refine aib _ _ _ _ ?_;unfold S61;refine aZ anG hs (C126 _ _ _ _ _ _ (hL.ext hs.aF) (hf.ext hs.aF) hφ (by omega)) (λ w1 he hs=>dK ?_);exact ⟨vb (og _ _),hs.aF⟩
theorem C22 (K:World→Prop) (p:Nat) (m:gp) (w:World) (hm:Has (eJ K p m) w) (hw:K w) (uM:∀ w',Ext w w'→K w') (lZ:qE m):CR 22 [(.pointer (some ⟨p,0,none⟩))] w (λ v w'=>lY (bK v m.mem.l) w w'):=by
 obtain ⟨a,hr⟩:=eJ.rd hm hw;have Zf:=hr.b.cell (o:=8) rfl;have cm0:=hr.b.cell (o:=0) rfl;have XH:=hr.b.cell (o:=1) rfl;have cm3:=hr.b.cell (o:=3) rfl;have cm9:=hr.b.cell (o:=9) rfl;have B0:=hr.b.cell (o:=10) rfl;have CM:=hr.b.cell (o:=11) rfl;have yi:=hr.b.cell (o:=12) rfl;have Fq:=hr.b.cell (o:=13) rfl;have zh:=hr.b.cell (o:=14) rfl;have Fs:=hr.b.cell (o:=15) rfl;have hs:=St.start w;refine ahF _ _ _ ?_;unfold S22;refine aE (aA jM (cE sj (B0.ext hs.aF) (dF ais hs (C72 a.q m.mem _ (hr.mem.ext hs.aF) lZ.mem) (λ x7 w1 cA hs=>?_))));exact hs.fresh
theorem C23 (K:World→Prop) (p:Nat) (m:gp) (w:World) (hm:Has (eJ K p m) w) (hw:K w) (uM:∀ w',Ext w w'→K w') (lZ:qE m):CR 23 [(.pointer (some ⟨p,0,none⟩))] w (λ v w'=>lY (bK v m.mem.kept) w w'):=by
 obtain ⟨a,hr⟩:=eJ.rd hm hw;have Zf:=hr.b.cell (o:=8) rfl;have cm0:=hr.b.cell (o:=0) rfl;have XH:=hr.b.cell (o:=1) rfl;have cm3:=hr.b.cell (o:=3) rfl;have cm9:=hr.b.cell (o:=9) rfl;have B0:=hr.b.cell (o:=10) rfl;have CM:=hr.b.cell (o:=11) rfl;have yi:=hr.b.cell (o:=12) rfl;have Fq:=hr.b.cell (o:=13) rfl;have zh:=hr.b.cell (o:=14) rfl;have Fs:=hr.b.cell (o:=15) rfl;have hs:=St.start w;refine ahG _ _ _ ?_;unfold S23;refine aE (aA jM (cE sj (B0.ext hs.aF) (dF UB hs (C73 a.q m.mem _ (hr.mem.ext hs.aF) lZ.mem) (λ x7 w1 cA hs=>?_))));exact hs.fresh
theorem C25 (K:World→Prop) (p:Nat) (m:gp) (i:Int) (w:World) (hm:Has (eJ K p m) w) (hw:K w) (uM:∀ w',Ext w w'→K w') (lZ:qE m) (Zg:∀ t∈m.l,t.aK.length≤1000000):CR 25 [(.pointer (some ⟨p,0,none⟩)),.int .i64 i] w (λ v w'=>lY (bK v (AQ m i)) w w'):=by
 obtain ⟨a,hr⟩:=eJ.rd hm hw;have Zf:=hr.b.cell (o:=8) rfl;have cm0:=hr.b.cell (o:=0) rfl;have XH:=hr.b.cell (o:=1) rfl;have cm3:=hr.b.cell (o:=3) rfl;have cm9:=hr.b.cell (o:=9) rfl;have B0:=hr.b.cell (o:=10) rfl;have CM:=hr.b.cell (o:=11) rfl;have yi:=hr.b.cell (o:=12) rfl;have Fq:=hr.b.cell (o:=13) rfl;have zh:=hr.b.cell (o:=14) rfl;have Fs:=hr.b.cell (o:=15) rfl;have hs:=St.start w;refine ahI _ _ _ _ ?_;unfold S25;refine ⟨λ jv w'=>jv = .bool (decide (i<0∨a.ps.length≤i))∧w=w',?_,?_⟩
 ·refine aR (aC (λ oJ=>?_) (λ oJ=>?_))
  ·exact ⟨H9 (by omega),rfl⟩
  ·refine aE (aA jm (cE pI (yi.ext hs.aF) (aJ qw (hr.ll.ext hs.aF) (dK ?_))));exact ⟨vQ (by omega),rfl⟩
 ·rintro _ w1 ⟨rfl,hw⟩ fD;subst hw;refine aC (λ jt=>?_) (λ jt=>?_)
  ·rw [S0 (by have:=hr.len; omega)];exact (hs.fX (α:=Int)).fresh
  ·refine aE (aA jm (cE pI (yi.ext hs.aF) ?_));obtain ⟨XK,vp⟩:=gx (a.ps) (i:=(i).toNat) (by omega);refine aQ qw hr.ll (by omega) vp (λ _ wK=>aD zT (wK.ext hs.aF) ?_);obtain ⟨t,ht⟩:∃ t,m.l[i.toNat]? = some t:=⟨_,List.getElem?_eq_getElem (by have:=hr.len; omega)⟩;have yR:=(lZ.th t (List.mem_of_getElem? ht)).bl;have arP:=(lZ.th t (List.mem_of_getElem? ht)).rg;obtain ⟨bp,gl,rg,cn,_,oC,hB,BJ,Ze⟩:=eI.rd (hr.th i.toNat _ _ vp ht);have XG:=oC.cell (o:=0) rfl;have ct5:=oC.cell (o:=5) rfl;have ct6:=oC.cell (o:=6) rfl;refine aE (aA pJ (cE eB (ct5.ext hs.aF) (dF zH hs (C70 _ _ _ (BJ.ext hs.aF) (Zg t (List.mem_of_getElem? ht))) (λ x26 w2 cA hs=>?_))))
   rw [XI (by omega) ht];exact hs.fresh
theorem C35 (K:World→Prop) (p:Nat) (m:gp) (i:Int) (w:World) (hm:Has (eJ K p m) w) (hw:K w) (uM:∀ w',Ext w w'→K w') (lZ:qE m):CR 35 [(.pointer (some ⟨p,0,none⟩)),.int .i64 i] w (λ v w'=>lY (bK v (CN m i)) w w'):=by
 obtain ⟨a,hr⟩:=eJ.rd hm hw;have Zf:=hr.b.cell (o:=8) rfl;have cm0:=hr.b.cell (o:=0) rfl;have XH:=hr.b.cell (o:=1) rfl;have cm3:=hr.b.cell (o:=3) rfl;have cm9:=hr.b.cell (o:=9) rfl;have B0:=hr.b.cell (o:=10) rfl;have CM:=hr.b.cell (o:=11) rfl;have yi:=hr.b.cell (o:=12) rfl;have Fq:=hr.b.cell (o:=13) rfl;have zh:=hr.b.cell (o:=14) rfl;have Fs:=hr.b.cell (o:=15) rfl;have hs:=St.start w;refine ahL _ _ _ _ ?_;unfold S35;refine ⟨λ jv w'=>jv = .bool (decide (i<0∨a.ps.length≤i))∧w=w',?_,?_⟩
 ·refine aR (aC (λ oJ=>?_) (λ oJ=>?_))
  ·exact ⟨H9 (by omega),rfl⟩
  ·refine aE (aA jm (cE pI (yi.ext hs.aF) (aJ qw (hr.ll.ext hs.aF) (dK ?_))));exact ⟨vQ (by omega),rfl⟩
 ·rintro _ w1 ⟨rfl,hw⟩ fD;subst hw;refine aC (λ jt=>?_) (λ jt=>?_)
  ·rw [XJ (by have:=hr.len; omega)];exact (hs.fX (α:=bJ)).fresh
  ·refine aE (aA jm (cE pI (yi.ext hs.aF) ?_));obtain ⟨XK,vp⟩:=gx (a.ps) (i:=(i).toNat) (by omega);refine aQ qw hr.ll (by omega) vp (λ _ wK=>aD zT (wK.ext hs.aF) ?_);obtain ⟨t,ht⟩:∃ t,m.l[i.toNat]? = some t:=⟨_,List.getElem?_eq_getElem (by have:=hr.len; omega)⟩;have yR:=(lZ.th t (List.mem_of_getElem? ht)).bl;have arP:=(lZ.th t (List.mem_of_getElem? ht)).rg;obtain ⟨bp,gl,rg,cn,_,oC,hB,BJ,Ze⟩:=eI.rd (hr.th i.toNat _ _ vp ht);have XG:=oC.cell (o:=0) rfl;have ct5:=oC.cell (o:=5) rfl;have ct6:=oC.cell (o:=6) rfl;refine aE (aA mZ (cE qY (XG.ext hs.aF) (dF aiF hs (C91 bp _ _ _ (hB.ext hs.aF) (by omega)) (λ x26 w2 cA hs=>?_))))
   rw [Ra (by omega) ht];exact hs.fresh
def qb (m:Mem) (c:Int):Int:=if OB m c=true then m.l.getD c.toNat 0 else 0
def Hu (m:gp) (t:fG) (x:aW):Int:=if (rH t.buf x.b).isSome=true then (rH t.buf x.b).getD 0 else qb m.mem x.b
def loadT (m:gp) (t:fG) (x:aW):fG:={t with aK:=t.aK.set x.a.toNat (Hu m t x)}
def Hv (m:gp) (t:fG) (x:aW):cG:=⟨if (rH t.buf x.b).isSome=true then 2 else 1,0,x.b,Hu m t x,0⟩
def uB (m:gp) (t:fG) (x:aW):bJ:=if x.kind=3 then ⟨3,m.u.lines.getD x.b.toNat 0,x.b,t.e⟩ else ⟨x.kind,x.b,0,0⟩
def uC (m:gp) (t:fG) (x:aW):fG:={t with buf:=wO m.room t.buf (uB m t x)}
def vq (k:Int):Int:=if k=3 then 3 else if k=5 then 4 else if k=6 then 5 else if k=7 then 6 else 0
def AR (m:gp) (t:fG) (x:aW):cG:=⟨vq x.kind,0,x.b,(uB m t x).n,0⟩
def casT (m:gp) (t:fG) (x:aW):fG:={t with aK:=t.aK.set x.a.toNat (qb m.mem x.b)}
def yj (m:gp) (t:fG) (x:aW):gp:=if qb m.mem x.b=t.e then {m with mem:=iO m.mem x.b t.f} else m
def Jo (m:gp) (t:fG) (x:aW):cG:=if qb m.mem x.b=t.e then ⟨8,0,x.b,qb m.mem x.b,t.f⟩ else ⟨9,0,x.b,qb m.mem x.b,0⟩
def wT (m:gp) (i:Int) (x:aW):gp:={m with locks:=m.locks.set x.b.toNat i}
def nJ (m:gp) (i:Int) (x:aW):gp:=if m.locks.getD x.b.toNat 0=i then {m with locks:=m.locks.set x.b.toNat (-1)} else {m with fault:=3,mv:=i}
def uD (m:gp) (i:Int) (x:aW):cG:=if m.locks.getD x.b.toNat 0=i then ⟨11,0,x.b,0,0⟩ else ⟨16,0,3,0,0⟩
def dR (m:gp) (t:fG) (i:Int) (x:aW):gp × fG × cG:=
 if x.kind=2 then (m,loadT m t x,Hv m t x)
 else if x.kind=4 then (yj m t x,casT m t x,Jo m t x)
 else if x.kind=8 then (m,t,⟨7,0,0,0,0⟩)
 else if x.kind=9 then (wT m i x,t,⟨10,0,x.b,0,0⟩)
 else if x.kind=10 then (nJ m i x,t,uD m i x)
 else (m,uC m t x,AR m t x)
theorem ag0 (p:Nat) (m:Mem) (c:Int) (w:World) (hm:vm w p m) (hk:vN m):CR 195 [.pointer (some ⟨p,0,none⟩),.int .i64 c] w (λ v w'=>v = .tuple #[.int .i64 (qb m c),.int .i64 (if OB m c=true then 0 else 1)]∧Ext w w'):=C195 p m c w hm hk
theorem B2 (m:Mem) (c n:Int):(iO m c n).of=m.of:=by unfold iO; split <;> rfl
theorem tC (m:Mem) (c n:Int):(iO m c n).dH=m.dH:=by unfold iO; split <;> rfl
theorem Rc (m:Mem) (c:Int):(vM m c).of=m.of:=by unfold vM; split <;> rfl
theorem Cx (m:Mem) (c:Int):(vM m c).dH=m.dH:=by unfold vM; split <;> rfl
theorem uy.write {ov fv:Value} {m:Mem} {w:World} {c n:Int} (h:uy ov fv m w):uy ov fv (iO m c n) w:=by unfold uy; rw [B2,tC]; exact h
theorem uy.out {ov fv:Value} {m:Mem} {w:World} {c:Int} (h:uy ov fv m w):uy ov fv (vM m c) w:=by unfold uy; rw [Rc,Cx]; exact h
theorem C130 (K:World→Prop) (p:Nat) (m:gp) (n:Nat) (tp:Ptr) (t:fG) (i:Int) (x:aW) (ge gf:SV) (F:Nat→Prop) (w:World) (hF:(sep (eI K tp.b m.room t) (kJ K p m n tp)).p w F) (hK:∀ w',iF F w w'→K w') (yR:t.buf.length≤1000) (JT:vN m.mem) (tH:MB m.mem 1000000) (hxa:0≤x.a∧x.a<t.aK.length):CR 130 [(.pointer (some ⟨p,0,none⟩)),(.pointer (some ⟨tp.b,0,none⟩)),.int .i64 i,Flat.val (⟨x.kind,x.a,x.b,ge,gf,x.to⟩:bU)] w (λ v w'=>v=Flat.val (Hv m t x)∧qy F (sep (eI K tp.b m.room (loadT m t x)) (kJ K p (m) n tp)) w w'):=by
 have hs:=(St.begin hF).split;obtain ⟨bp,gl,rg,cn,qQ,hs⟩:=eI.open hs;obtain ⟨a,hx,hs⟩:=kJ.open hs.p4;refine Z7 _ _ _ _ _ _ ?_;unfold S130;refine dJ (x:=(⟨x.kind,x.a,x.b,ge,gf,x.to⟩:bU)) hs (λ BA w1 hs=>aN hs lG (λ By w2 hs=>aE (aA mZ (have hs:=hs.drew;aB qY hs.p7.hb rfl (aA fc (aB (v:=.int .i64 x.b) bL hs.p1.hb rfl (aZ aoa hs (C194 bp x.b m.room t.buf _ (Q3 hs.p8) (by omega)) (λ w3 he hs=>bE rfl (bE rfl ?_)))))))));refine ⟨_,?_,λ _ _ _ h=>h⟩;refine cC (aX (λ iV=>?_) (λ iV=>?_))
 ·refine aE (aA jM (have hs:=hs.drew;aB sj hs.p2.hb rfl (aA fc (aB (v:=.int .i64 x.b) bL hs.p1.hb rfl (aZ afu hs (ag0 a.q m.mem x.b _ (Je hs.p3 (hx.1.mem _ (hK _ hs.aF))) JT) (λ w4 he hs=>bE rfl (bE rfl ?_)))))));intro fD;refine aE (aA pJ (have hs:=hs.drew;aB eB hs.p7.hb rfl (aA ku (aB (v:=.int .i64 x.a) bL hs.p1.hb rfl ?_))));obtain ⟨agC,Jc⟩:=gx (t.aK) (i:=(x.a).toNat) (by omega);refine dS hs.p9 eh (by omega) (by omega) (λ arQ Ep=>km _ hs.p9 bL Ep (by omega) (λ w6 hs=>aA fc (aB (v:=.int .i64 x.b) bL hs.p2.hb rfl (pop (pO _ _ _) (aI (x:=(⟨1,0,x.b,(qb m.mem x.b),0⟩:cG)) hs.p1 fg rfl rfl (λ w7 hs=>aD fg hs.At ?_))))))
  have hn:Hu m t x=(qb m.mem x.b):=by unfold Hu; rw [if_neg (by simpa using iV)]
  have hk:(if (rH t.buf x.b).isSome=true then (2:Int) else 1)=1:=by rw [if_neg (by simpa using iV)]
  have hs:=eI.shut (room:=m.room) (t:=(⟨t.code,t.at_,((t.aK).set (x.a).toNat (qb m.mem x.b)),t.counts,t.fault,t.e,t.f,t.buf⟩:fG)) qQ hs.r8.p2.r8.r8;have hs:=((kJ.shut (m:=m) (⟨⟨hx.1.ln,hx.1.cl,hx.1.rc,hx.1.mem⟩,hx.2⟩) hs.p7.p7.p7.p7.p7).p2).drop;have hs:=(hs.p2.drop).p1;refine ⟨?_,?_⟩
  ·unfold Hv; rw [hn,hk]
  ·rw [show loadT m t x=(⟨t.code,t.at_,((t.aK).set (x.a).toNat (qb m.mem x.b)),t.counts,t.fault,t.e,t.f,t.buf⟩:fG) from by unfold loadT; rw [hn]]; exact (St.join hs).mut
 ·intro fD;refine aE (aA pJ (have hs:=hs.drew;aB eB hs.p7.hb rfl (aA ku (aB (v:=.int .i64 x.a) bL hs.p1.hb rfl ?_))));obtain ⟨agC,Jc⟩:=gx (t.aK) (i:=(x.a).toNat) (by omega);refine dS hs.p9 eh (by omega) (by omega) (λ arQ Ep=>km _ hs.p9 bL Ep (by omega) (λ w6 hs=>aA fc (aB (v:=.int .i64 x.b) bL hs.p2.hb rfl (pop (pO _ _ _) (aI (x:=(⟨2,0,x.b,((rH t.buf x.b).getD 0),0⟩:cG)) hs.p1 fg rfl rfl (λ w7 hs=>aD fg hs.At ?_))))));have hn:Hu m t x=((rH t.buf x.b).getD 0):=by unfold Hu; rw [if_pos (by simpa using iV)]
  have hk:(if (rH t.buf x.b).isSome=true then (2:Int) else 1)=2:=by rw [if_pos (by simpa using iV)]
  have hs:=eI.shut (room:=m.room) (t:=(⟨t.code,t.at_,((t.aK).set (x.a).toNat ((rH t.buf x.b).getD 0)),t.counts,t.fault,t.e,t.f,t.buf⟩:fG)) qQ hs.r8.p2.r8.r8;have hs:=((kJ.shut (m:=m) (⟨⟨hx.1.ln,hx.1.cl,hx.1.rc,hx.1.mem⟩,hx.2⟩) hs.p7.p7.p7.p7.p7).p2).drop;have hs:=(hs.p2.drop).p1;refine ⟨?_,?_⟩
  ·unfold Hv; rw [hn,hk]
  ·rw [show loadT m t x=(⟨t.code,t.at_,((t.aK).set (x.a).toNat ((rH t.buf x.b).getD 0)),t.counts,t.fault,t.e,t.f,t.buf⟩:fG) from by unfold loadT; rw [hn]]; exact (St.join hs).mut
theorem C132 (K:World→Prop) (p:Nat) (m:gp) (n:Nat) (tp:Ptr) (t:fG) (i:Int) (x:aW) (ge gf:SV) (F:Nat→Prop) (w:World) (hF:(sep (eI K tp.b m.room t) (kJ K p m n tp)).p w F) (hK:∀ w',iF F w w'→K w') (yR:t.buf.length≤1000) (JT:vN m.mem) (tH:MB m.mem 1000000) (hxa:0≤x.a∧x.a<t.aK.length):CR 132 [(.pointer (some ⟨p,0,none⟩)),(.pointer (some ⟨tp.b,0,none⟩)),.int .i64 i,Flat.val (⟨x.kind,x.a,x.b,ge,gf,x.to⟩:bU)] w (λ v w'=>v=Flat.val (Jo m t x)∧qy F (sep (eI K tp.b m.room (casT m t x)) (kJ K p (yj m t x) n tp)) w w'):=by
 have hs:=(St.begin hF).split;obtain ⟨bp,gl,rg,cn,qQ,hs⟩:=eI.open hs;obtain ⟨a,hx,hs⟩:=kJ.open hs.p4;refine Z9 _ _ _ _ _ _ ?_;unfold S132;refine dJ (x:=(⟨x.kind,x.a,x.b,ge,gf,x.to⟩:bU)) hs (λ BA w1 hs=>aN hs lG (λ By w2 hs=>aE (aA jM (have hs:=hs.drew;aB sj hs.p2.hb rfl (aA fc (aB (v:=.int .i64 x.b) bL hs.p1.hb rfl (aZ afu hs (ag0 a.q m.mem x.b _ (Je hs.p3 (hx.1.mem _ (hK _ hs.aF))) JT) (λ w3 he hs=>bE rfl (bE rfl (aE (aA pJ (have hs:=hs.drew;aB eB hs.p7.hb rfl ?_))))))))))));refine aA ku (aB (v:=.int .i64 x.a) bL hs.p1.hb rfl ?_)
 obtain ⟨yy,yW⟩:=gx (t.aK) (i:=(x.a).toNat) (by omega);refine dS hs.p9 eh (by omega) (by omega) (λ _ wB=>km _ hs.p9 bL wB (by omega) (λ w4 hs=>aE (aA tS (aB bL hs.p8.hb rfl (cR (aC (λ iJ=>?_) (λ iJ=>?_)))))))
 ·refine aA fc (aB (v:=.int .i64 x.b) bL hs.p2.hb rfl (pop (pO _ _ _) (aI (x:=(⟨9,0,x.b,(qb m.mem x.b),0⟩:cG)) hs.p1 fg rfl rfl (λ w5 hs=>aD fg hs.At ?_))));have M6:yj m t x=m:=by unfold yj; rw [if_neg iJ]
  have hce:Jo m t x=⟨9,0,x.b,qb m.mem x.b,0⟩:=by unfold Jo; rw [if_neg iJ]
  have hs:=eI.shut (room:=m.room) (t:=(⟨t.code,t.at_,((t.aK).set (x.a).toNat (qb m.mem x.b)),t.counts,t.fault,t.e,t.f,t.buf⟩:fG)) qQ hs.r8.p2.r8.r8;have hs:=kJ.shut (m:=m) (⟨⟨hx.1.ln,hx.1.cl,hx.1.rc,λ w hw=>by first | exact hx.1.mem w hw | exact (hx.1.mem w hw).write⟩,hx.2⟩) hs.p7.p7.p7.p7.p7;have hs:=((hs.p2.drop.p2).drop).p1;refine ⟨?_,?_⟩
  ·rw [hce]; try rfl
  ·rw [M6]; exact (St.join hs).mut
 ·refine aE (aA jM (have hs:=hs.drew;aB sj hs.p3.hb rfl (aA fc (aB (v:=.int .i64 x.b) bL hs.p2.hb rfl (aE (aA DW (aB bL hs.p8.hb rfl (bI UF hs.p4 (H':=λ _=>fZ a.q a.ov a.fv (iO m.mem x.b t.f)) (Φ:=λ _ _=>True) (λ F2 eW eF=>?_) ?_))))))))
  ·exact (C128 a.q a.ov a.fv m.mem F2 x.b _ _ eW (λ w' hc=>hx.1.mem _ (hK w' (eF w' hc).aF)) JT tH).mono λ _ _ r=>r.mono λ _ _ h=>⟨trivial,h.2⟩
  rintro _ w6 _ hs;refine aA fc (have hs:=hs.drew;aB (v:=.int .i64 x.b) bL hs.p3.hb rfl (aE (aA DW (aB bL hs.p8.hb rfl (pop (F6 _ _ _ _) (aI (x:=(⟨8,0,x.b,(qb m.mem x.b),t.f⟩:cG)) hs.p2 fg rfl rfl (λ w7 hs=>aD fg hs.At ?_)))))));have M6:yj m t x={m with mem:=iO m.mem x.b t.f}:=by unfold yj; rw [if_pos (by simpa using iJ)]
  have hce:Jo m t x=⟨8,0,x.b,qb m.mem x.b,t.f⟩:=by unfold Jo; rw [if_pos (by simpa using iJ)]
  have hs:=eI.shut (room:=m.room) (t:=(⟨t.code,t.at_,((t.aK).set (x.a).toNat (qb m.mem x.b)),t.counts,t.fault,t.e,t.f,t.buf⟩:fG)) qQ hs.r8.p3.r8.r8;have hs:=kJ.shut (m:={m with mem:=iO m.mem x.b t.f}) (⟨⟨hx.1.ln,hx.1.cl,hx.1.rc,λ w hw=>by first | exact hx.1.mem w hw | exact (hx.1.mem w hw).write⟩,hx.2⟩) hs.p7.p7.p7.p5.p7;have hs:=((hs.p2.drop.p2).drop).p1;refine ⟨?_,?_⟩
  ·rw [hce]; try rfl
  ·rw [M6]; exact (St.join hs).mut
theorem C133 (K:World→Prop) (p:Nat) (m:gp) (n:Nat) (tp:Ptr) (t:fG) (i:Int) (x:aW) (ge gf:SV) (F:Nat→Prop) (w:World) (hF:(sep (eI K tp.b m.room t) (kJ K p m n tp)).p w F) (hK:∀ w',iF F w w'→K w') (yR:t.buf.length≤1000) (JT:vN m.mem) (tH:MB m.mem 1000000):CR 133 [(.pointer (some ⟨p,0,none⟩)),(.pointer (some ⟨tp.b,0,none⟩)),.int .i64 i,Flat.val (⟨x.kind,x.a,x.b,ge,gf,x.to⟩:bU)] w (λ v w'=>v=Flat.val ((⟨7,0,0,0,0⟩:cG))∧qy F (sep (eI K tp.b m.room (t)) (kJ K p (m) n tp)) w w'):=by
 have hs:=(St.begin hF).split;obtain ⟨bp,gl,rg,cn,qQ,hs⟩:=eI.open hs;obtain ⟨a,hx,hs⟩:=kJ.open hs.p4;refine aaa _ _ _ _ _ _ ?_;unfold S133;refine dJ (x:=(⟨x.kind,x.a,x.b,ge,gf,x.to⟩:bU)) hs (λ BA w1 hs=>aN hs lG (λ By w2 hs=>pop (aca _) (aI (x:=(⟨7,0,0,0,0⟩:cG)) hs fg rfl rfl (λ w3 hs=>aD fg hs.At ?_))));have hs:=eI.shut (room:=m.room) (t:=(⟨t.code,t.at_,t.aK,t.counts,t.fault,t.e,t.f,t.buf⟩:fG)) qQ hs.r8.r8.r8.r8;have hs:=((kJ.shut (m:=m) (⟨⟨hx.1.ln,hx.1.cl,hx.1.rc,hx.1.mem⟩,hx.2⟩) hs.p7.p7.p7.p7.p7).p2).drop;have hs:=(hs.p2.drop).p1;refine ⟨?_,?_⟩
 ·rfl
 ·skip; exact (St.join hs).mut
theorem C134 (K:World→Prop) (p:Nat) (m:gp) (n:Nat) (tp:Ptr) (t:fG) (i:Int) (x:aW) (ge gf:SV) (F:Nat→Prop) (w:World) (hF:(sep (eI K tp.b m.room t) (kJ K p m n tp)).p w F) (hK:∀ w',iF F w w'→K w') (yR:t.buf.length≤1000) (JT:vN m.mem) (tH:MB m.mem 1000000) (hxb:0≤x.b∧x.b<m.locks.length):CR 134 [(.pointer (some ⟨p,0,none⟩)),(.pointer (some ⟨tp.b,0,none⟩)),.int .i64 i,Flat.val (⟨x.kind,x.a,x.b,ge,gf,x.to⟩:bU)] w (λ v w'=>v=Flat.val ((⟨10,0,x.b,0,0⟩:cG))∧qy F (sep (eI K tp.b m.room (t)) (kJ K p (wT m i x) n tp)) w w'):=by
 have hs:=(St.begin hF).split;obtain ⟨bp,gl,rg,cn,qQ,hs⟩:=eI.open hs;obtain ⟨a,hx,hs⟩:=kJ.open hs.p4;refine aab _ _ _ _ _ _ ?_;unfold S134;refine dJ (x:=(⟨x.kind,x.a,x.b,ge,gf,x.to⟩:bU)) hs (λ BA w1 hs=>aN hs lG (λ By w2 hs=>aE (aA nW (have hs:=hs.drew;aB eB hs.p2.hb rfl (aA fc (aB (v:=.int .i64 x.b) bL hs.p1.hb rfl ?_))))));obtain ⟨Hb,kU⟩:=gx (m.locks) (i:=(x.b).toNat) (by omega);refine dS hs.p4 eh (by omega) (by omega) (λ _ ud=>km _ hs.p4 bL ud (by omega) (λ w3 hs=>aA fc (aB (v:=.int .i64 x.b) bL hs.p2.hb rfl (pop (Bu _ _) (aI (x:=(⟨10,0,x.b,0,0⟩:cG)) hs.p1 fg rfl rfl (λ w4 hs=>aD fg hs.At ?_))))))
 have hs:=eI.shut (room:=m.room) (t:=(⟨t.code,t.at_,t.aK,t.counts,t.fault,t.e,t.f,t.buf⟩:fG)) qQ hs.r8.r8.r8.r8;have hs:=kJ.shut (m:=(wT m i x)) (⟨⟨hx.1.ln,hx.1.cl,hx.1.rc,hx.1.mem⟩,hx.2⟩) hs.p7.p7.p4.p7.p7;have hs:=((hs.p2.drop.p2).drop).p1;refine ⟨?_,?_⟩
 ·rfl
 ·skip; exact (St.join hs).mut
theorem C135 (K:World→Prop) (p:Nat) (m:gp) (n:Nat) (tp:Ptr) (t:fG) (i:Int) (x:aW) (ge gf:SV) (F:Nat→Prop) (w:World) (hF:(sep (eI K tp.b m.room t) (kJ K p m n tp)).p w F) (hK:∀ w',iF F w w'→K w') (yR:t.buf.length≤1000) (JT:vN m.mem) (tH:MB m.mem 1000000) (hxb:0≤x.b∧x.b<m.locks.length):CR 135 [(.pointer (some ⟨p,0,none⟩)),(.pointer (some ⟨tp.b,0,none⟩)),.int .i64 i,Flat.val (⟨x.kind,x.a,x.b,ge,gf,x.to⟩:bU)] w (λ v w'=>v=Flat.val (uD m i x)∧qy F (sep (eI K tp.b m.room (t)) (kJ K p (nJ m i x) n tp)) w w'):=by
 have hs:=(St.begin hF).split;obtain ⟨bp,gl,rg,cn,qQ,hs⟩:=eI.open hs;obtain ⟨a,hx,hs⟩:=kJ.open hs.p4;refine aac _ _ _ _ _ _ ?_;unfold S135;refine dJ (x:=(⟨x.kind,x.a,x.b,ge,gf,x.to⟩:bU)) hs (λ BA w1 hs=>aN hs lG (λ By w2 hs=>aE (aA nW (have hs:=hs.drew;aB eB hs.p2.hb rfl (aA fc (aB (v:=.int .i64 x.b) bL hs.p1.hb rfl ?_))))));obtain ⟨pS,jZ⟩:=gx (m.locks) (i:=(x.b).toNat) (by omega);refine dS hs.p4 eh (by omega) (by omega) (λ _ ri=>fY hs.p4 bL ri jZ (cR (aC (λ gj=>?_) (λ gj=>?_))))
 ·refine aE (aA nX (aV hs.p2 bL (eK rfl) (rfl) (λ w3 hs=>aE (aA DV (aV hs bL (eK rfl) (rfl) (λ w4 hs=>pop (Bu _ _) (aI (x:=(⟨16,0,3,0,0⟩:cG)) hs.p1 fg rfl rfl (λ w5 hs=>aD fg hs.At ?_))))))));have hgd:m.locks.getD x.b.toNat 0=pS:=by rw [List.getD_eq_getElem?_getD,jZ]; rfl
  have hgm:nJ m i x={m with fault:=3,mv:=i}:=by unfold nJ; rw [hgd,if_neg gj]
  have Ip:uD m i x=⟨16,0,3,0,0⟩:=by unfold uD; rw [hgd,if_neg gj]
  have hs:=eI.shut (room:=m.room) (t:=(⟨t.code,t.at_,t.aK,t.counts,t.fault,t.e,t.f,t.buf⟩:fG)) qQ hs.r8.r8.r8.r8;have hs:=kJ.shut (m:={m with fault:=3,mv:=i}) (⟨⟨hx.1.ln,hx.1.cl,hx.1.rc,hx.1.mem⟩,hx.2⟩) hs.p7.p7.p7.p7.p6;have hs:=((hs.p2.drop.p2).drop).p1;refine ⟨?_,?_⟩
  ·rw [Ip]; try rfl
  ·rw [hgm]; exact (St.join hs).mut
 ·refine aE (aA nW (have hs:=hs.drew;aB eB hs.p2.hb rfl (aA fc (aB (v:=.int .i64 x.b) bL hs.p1.hb rfl (dS hs.p4 eh (by omega) (by omega) (λ _ Ap=>km _ hs.p4 bL Ap (by omega) (λ w6 hs=>aA fc (aB (v:=.int .i64 x.b) bL hs.p2.hb rfl (pop (Bu _ _) (aI (x:=(⟨11,0,x.b,0,0⟩:cG)) hs.p1 fg rfl rfl (λ w7 hs=>aD fg hs.At ?_)))))))))));have hgd:m.locks.getD x.b.toNat 0=pS:=by rw [List.getD_eq_getElem?_getD,jZ]; rfl
  have hgm:nJ m i x={m with locks:=m.locks.set x.b.toNat (-1)}:=by unfold nJ; rw [hgd,if_pos (by simpa using gj)]
  have Ip:uD m i x=⟨11,0,x.b,0,0⟩:=by unfold uD; rw [hgd,if_pos (by simpa using gj)]
  have hs:=eI.shut (room:=m.room) (t:=(⟨t.code,t.at_,t.aK,t.counts,t.fault,t.e,t.f,t.buf⟩:fG)) qQ hs.r8.r8.r8.r8;have hs:=kJ.shut (m:={m with locks:=m.locks.set x.b.toNat (-1)}) (⟨⟨hx.1.ln,hx.1.cl,hx.1.rc,hx.1.mem⟩,hx.2⟩) hs.p7.p7.p4.p7.p7;have hs:=((hs.p2.drop.p2).drop).p1;refine ⟨?_,?_⟩
  ·rw [Ip]; try rfl
  ·rw [hgm]; exact (St.join hs).mut
theorem C131 (K:World→Prop) (p:Nat) (m:gp) (n:Nat) (tp:Ptr) (t:fG) (i:Int) (x:aW) (ge gf:SV) (F:Nat→Prop) (w:World) (hF:(sep (eI K tp.b m.room t) (kJ K p m n tp)).p w F) (hK:∀ w',iF F w w'→K w') (yR:t.buf.length≤1000) (JT:vN m.mem) (tH:MB m.mem 1000000) (hkd:x.kind=3∨x.kind=5∨x.kind=6∨x.kind=7) (PE:x.kind=3→0≤x.b∧x.b<m.u.lines.length):CR 131 [(.pointer (some ⟨p,0,none⟩)),(.pointer (some ⟨tp.b,0,none⟩)),.int .i64 i,Flat.val (⟨x.kind,x.a,x.b,ge,gf,x.to⟩:bU)] w (λ v w'=>v=Flat.val (AR m t x)∧qy F (sep (eI K tp.b m.room (uC m t x)) (kJ K p (m) n tp)) w w'):=by
 have hs:=(St.begin hF).split;obtain ⟨bp,gl,rg,cn,qQ,hs⟩:=eI.open hs;obtain ⟨a,hx,hs⟩:=kJ.open hs.p4;refine Z8 _ _ _ _ _ _ ?_;unfold S131;refine dJ (x:=(⟨x.kind,x.a,x.b,ge,gf,x.to⟩:bU)) hs (λ BA w1 hs=>aN hs lG (λ By w2 hs=>wP hs (λ Wg w3 hs=>ik hs Tryz.underlying272 oT (by decide) (λ w4 hs=>ik hs Tryz.underlying272 oT (by decide) (λ w5 hs=>ik hs Tryz.underlying272 oT (by decide) (λ w6 hs=>ik hs Tryz.underlying272 oT (by decide) (λ w7 hs=>aA jn (aB (v:=.int .i64 x.kind) bL hs.p2.hb rfl (aA fc (aB (v:=.int .i64 x.b) bL hs.p2.hb rfl (pop (Nz _ _) (aN hs uU (λ b_y10 w8 hs=>?_)))))))))))))
 refine aI (x:=(⟨x.kind,x.b,0,0⟩:bJ)) hs lf rfl rfl (λ w9 hs=>?_);refine ⟨_,?_,λ _ h=>h⟩;refine aA jn (aB (v:=.int .i64 x.kind) bL hs.p3.hb rfl (aH (aC (λ jE=>?_) (λ jE=>?_))))
 ·have hxb:=PE jE;refine aE (aA tP (aA mE (have hs:=hs.drew;aB eB hs.p4.hb rfl (aA fc (aB (v:=.int .i64 x.b) bL hs.p3.hb rfl ?_)))));obtain ⟨yy,yW⟩:=gx (m.u.lines) (i:=(x.b).toNat) (by omega);refine aQ eh (hx.1.ln _ (hK _ hs.aF)) (by omega) yW (λ _ wB=>aD bL (wB) (aA fc (aB (v:=.int .i64 x.b) bL hs.p3.hb rfl (aE (aA tS (aB bL hs.p9.hb rfl (aA lg (aV hs bL (eK rfl) (rfl) (λ pP hs=>?_)))))))));have hs:=hs.enc (cs':=Flat.enc ({ (⟨x.kind,x.b,0,0⟩:bJ) with line:=yy}:bJ)) rfl;refine ⟨aG bL (hs.p3.hb.cell rfl),?_⟩
  refine ⟨aG bL (hs.p9.hb.cell rfl),?_⟩;refine aA nY (aV hs bL (eK rfl) (rfl) (λ sZ hs=>?_));have hs:=hs.enc (cs':=Flat.enc ({ ({ (⟨x.kind,x.b,0,0⟩:bJ) with line:=yy}:bJ) with cell:=x.b}:bJ)) rfl;refine ⟨aG bL (hs.p9.hb.cell rfl),?_⟩;refine aA m4 (aV hs bL (eK rfl) (rfl) (λ vy hs=>?_));have hs:=hs.enc (cs':=Flat.enc ({ ({ ({ (⟨x.kind,x.b,0,0⟩:bJ) with line:=yy}:bJ) with cell:=x.b}:bJ) with n:=t.e}:bJ)) rfl;intro fD;refine aE (aA mZ (have hs:=hs.drew;aB qY hs.p9.hb rfl ?_));have hpy:uB m t x=({ ({ ({ (⟨x.kind,x.b,0,0⟩:bJ) with line:=yy}:bJ) with cell:=x.b}:bJ) with n:=t.e}:bJ):=by unfold uB; rw [if_pos jE,List.getD_eq_getElem?_getD,yW,← jE]; rfl
  refine aD lf hs.At (bI afv hs.r8 (H':=λ _=>nM bp m.room (wO m.room t.buf (uB m t x))) (Φ:=λ _ _=>True) (λ F2 eW eF=>?_) ?_)
  ·rw [hpy]; exact (C196 bp m.room t.buf ({ ({ ({ (⟨x.kind,x.b,0,0⟩:bJ) with line:=yy}:bJ) with cell:=x.b}:bJ) with n:=t.e}:bJ) F2 _ eW (by omega)).mono λ _ _ r=>r.mono λ _ _ h=>⟨trivial,h.2⟩
  rintro _ su _ hs;refine aA jn (aB (v:=.int .i64 x.kind) bL hs.p4.hb rfl ?_)
  have J2:(Go.Fw.look [3,5,6,7] [Value.int .i64 3,.int .i64 4,.int .i64 5,.int .i64 6] x.kind).getD (.int .i64 0) = .int .i64 (vq x.kind):=by
   have hk4:=hkd
   rcases hk4 with h | h | h | h <;> rw [h] <;> rfl
  refine ⟨_,pg hs.p2.AE Tryz.underlying272 oT Cg,?_⟩;rw [show (Go.Fw.look ([]++[3]++[5]++[6]++[7]) ([]++[Value.int .i64 3]++[Value.int .i64 4]++[Value.int .i64 5]++[Value.int .i64 6]) x.kind).getD (.int .i64 0) = .int .i64 (vq x.kind) from J2];refine aA fc (aB (v:=.int .i64 x.b) bL hs.p4.hb rfl (aA m4 (aB (v:=.int .i64 ((({ ({ ({ (⟨x.kind,x.b,0,0⟩:bJ) with line:=yy}:bJ) with cell:=x.b}:bJ) with n:=t.e}:bJ)).n)) bL hs.p1.hb rfl (pop (pO _ _ _) (aI (x:=(⟨(vq x.kind),0,x.b,(({ ({ ({ (⟨x.kind,x.b,0,0⟩:bJ) with line:=yy}:bJ) with cell:=x.b}:bJ) with n:=t.e}:bJ)).n,0⟩:cG)) hs.p3 fg rfl rfl (λ wm hs=>aD fg hs.At ?_))))))
  have hs:=eI.shut (room:=m.room) (t:=(⟨t.code,t.at_,t.aK,t.counts,t.fault,t.e,t.f,(wO m.room t.buf (uB m t x))⟩:fG)) qQ hs.p12.p12.p3.p12;have hs:=((kJ.shut (m:=m) (⟨⟨hx.1.ln,hx.1.cl,hx.1.rc,hx.1.mem⟩,hx.2⟩) hs.p9.p9.p9.p9.p9).p2).drop;have hs:=(((hs.p2.drop.p2.drop).p2).drop).p1;refine ⟨?_,?_⟩
  ·unfold AR; rw [hpy]
  ·rw [show uC m t x=(⟨t.code,t.at_,t.aK,t.counts,t.fault,t.e,t.f,(wO m.room t.buf (uB m t x))⟩:fG) from rfl]; exact (St.join hs).mut
 ·intro fD;refine aE (aA mZ (have hs:=hs.drew;aB qY hs.p9.hb rfl ?_));have hpy:uB m t x=(⟨x.kind,x.b,0,0⟩:bJ):=by unfold uB; rw [if_neg jE]
  refine aD lf hs.At (bI afv hs.r8 (H':=λ _=>nM bp m.room (wO m.room t.buf (uB m t x))) (Φ:=λ _ _=>True) (λ F2 eW eF=>?_) ?_)
  ·rw [hpy]; exact (C196 bp m.room t.buf (⟨x.kind,x.b,0,0⟩:bJ) F2 _ eW (by omega)).mono λ _ _ r=>r.mono λ _ _ h=>⟨trivial,h.2⟩
  rintro _ su _ hs;refine aA jn (aB (v:=.int .i64 x.kind) bL hs.p4.hb rfl ?_)
  have J2:(Go.Fw.look [3,5,6,7] [Value.int .i64 3,.int .i64 4,.int .i64 5,.int .i64 6] x.kind).getD (.int .i64 0) = .int .i64 (vq x.kind):=by
   have hk4:=hkd
   rcases hk4 with h | h | h | h <;> rw [h] <;> rfl
  refine ⟨_,pg hs.p2.AE Tryz.underlying272 oT Cg,?_⟩;rw [show (Go.Fw.look ([]++[3]++[5]++[6]++[7]) ([]++[Value.int .i64 3]++[Value.int .i64 4]++[Value.int .i64 5]++[Value.int .i64 6]) x.kind).getD (.int .i64 0) = .int .i64 (vq x.kind) from J2];refine aA fc (aB (v:=.int .i64 x.b) bL hs.p4.hb rfl (aA m4 (aB (v:=.int .i64 (((⟨x.kind,x.b,0,0⟩:bJ)).n)) bL hs.p1.hb rfl (pop (pO _ _ _) (aI (x:=(⟨(vq x.kind),0,x.b,((⟨x.kind,x.b,0,0⟩:bJ)).n,0⟩:cG)) hs.p3 fg rfl rfl (λ wm hs=>aD fg hs.At ?_))))));have hs:=eI.shut (room:=m.room) (t:=(⟨t.code,t.at_,t.aK,t.counts,t.fault,t.e,t.f,(wO m.room t.buf (uB m t x))⟩:fG)) qQ hs.p12.p12.p3.p12
  have hs:=((kJ.shut (m:=m) (⟨⟨hx.1.ln,hx.1.cl,hx.1.rc,hx.1.mem⟩,hx.2⟩) hs.p9.p9.p9.p9.p9).p2).drop;have hs:=(((hs.p2.drop.p2.drop).p2).drop).p1;refine ⟨?_,?_⟩
  ·unfold AR; rw [hpy]
  ·rw [show uC m t x=(⟨t.code,t.at_,t.aK,t.counts,t.fault,t.e,t.f,(wO m.room t.buf (uB m t x))⟩:fG) from rfl]; exact (St.join hs).mut
def il (m:Mem) (x:bJ):Mem:=if x.kind=3 then iO m x.cell x.n else if x.kind=7 then m else vM m x.line
def oD (t:Int) (x:bJ):cG:=if x.kind=3 then ⟨12,t,x.cell,x.n,0⟩ else if x.kind=7 then ⟨14,t,0,0,0⟩ else ⟨13,t,x.line,0,0⟩
def mw (m:gp) (t:fG) (p:eo):gp:={m with mem:=il m.mem (ep t.buf p.i),l:=m.l.set p.t.toNat {t with buf:=mq t.buf p.i}}
section
variable {m:gp} {t:fG} {i:Int} {x:aW}
theorem xF:(dR m t i x).1.room=m.room:=by
 unfold dR yj wT nJ; repeat' split
 all_goals rfl
theorem B3:(dR m t i x).1.l=m.l:=by
 unfold dR yj wT nJ; repeat' split
 all_goals rfl
theorem OK:(dR m t i x).1.u=m.u:=by
 unfold dR yj wT nJ; repeat' split
 all_goals rfl
theorem Df:(dR m t i x).2.1.at_=t.at_:=by
 unfold dR loadT casT uC; repeat' split
 all_goals rfl
theorem qR:(dR m t i x).2.1.code=t.code:=by
 unfold dR loadT casT uC; repeat' split
 all_goals rfl
theorem XM {room:Int} {l:List bJ} {y:bJ}:(wO room l y).length≤l.length∨((wO room l y).length:Int)≤room:=by
 unfold wO; split
 ·rename_i h; right; simp; omega
 ·left; exact Nat.le_refl _
theorem Rd (h:Hp t) (hr:m.room≤16):Hp (dR m t i x).2.1:=by
 have h1:=h.rg; have h2:=h.cn; have h3:=h.T0; have h4:=h.bl
 have h5:=XM (room:=m.room) (l:=t.buf) (y:=uB m t x)
 unfold dR loadT casT uC
 repeat' split
 all_goals first
  | exact h
  | exact ⟨h.code,by simpa using h1,h2,h3,h4⟩
  | exact ⟨h.code,h1,h2,h3,by dsimp only; omega⟩
end
def mN (N:Nat) (m:gp) (i:Int):Option (gp × cG):=match m.l[i.toNat]? with
 | none=>none
 | some t=>if t.fault≠0 then some ({m with fault:=t.fault,mv:=i},⟨16,i,t.fault,0,0⟩) else match gP t with
  | none=>none
  | some x=>if (dR m t i x).1.fault=0 then
    (rZ N { (dR m t i x).2.1 with at_:=(dR m t i x).2.1.at_+1}).map λ t2=>({ (dR m t i x).1 with l:=(dR m t i x).1.l.set i.toNat t2},{ (dR m t i x).2.2 with t:=i})
   else some ({ (dR m t i x).1 with l:=(dR m t i x).1.l.set i.toNat (dR m t i x).2.1},{ (dR m t i x).2.2 with t:=i})
theorem xG {N:Nat} {m m':gp} {i:Int} {t:fG} {ev:cG} (h:mN N m i=some (m',ev)) (ht:m.l[i.toNat]? = some t) (hf:t.fault≠0):m'={m with fault:=t.fault,mv:=i}∧ev=⟨16,i,t.fault,0,0⟩:=by
 unfold mN at h; rw [ht] at h; dsimp only at h; rw [if_pos hf] at h
 have:=Option.some.inj h
 exact ⟨(congrArg Prod.fst this).symm,(congrArg Prod.snd this).symm⟩
theorem xH {N:Nat} {m m':gp} {i:Int} {t:fG} {ev:cG} (h:mN N m i=some (m',ev)) (ht:m.l[i.toNat]? = some t) (hf:¬ t.fault≠0):∃ x,gP t=some x:=by
 unfold mN at h; rw [ht] at h; dsimp only at h; rw [if_neg hf] at h
 cases hn:gP t with
 | none=>rw [hn] at h; cases h
 | some x=>exact ⟨x,rfl⟩
theorem xI {N:Nat} {m m':gp} {i:Int} {t:fG} {x:aW} {ev:cG} (h:mN N m i=some (m',ev)) (ht:m.l[i.toNat]? = some t) (hf:¬ t.fault≠0) (hn:gP t=some x) (h0:(dR m t i x).1.fault=0) :
  ∃ t2,rZ N { (dR m t i x).2.1 with at_:=(dR m t i x).2.1.at_+1}=some t2∧m'={ (dR m t i x).1 with l:=(dR m t i x).1.l.set i.toNat t2}∧ev={ (dR m t i x).2.2 with t:=i}:=by
 unfold mN at h; rw [ht] at h; dsimp only at h; rw [if_neg hf,hn] at h; dsimp only at h; rw [if_pos h0] at h
 cases hg:rZ N { (dR m t i x).2.1 with at_:=(dR m t i x).2.1.at_+1} with
 | none=>rw [hg] at h; cases h
 | some t2=>
  rw [hg] at h
  have:=Option.some.inj h
  exact ⟨t2,rfl,(congrArg Prod.fst this).symm,(congrArg Prod.snd this).symm⟩
theorem xJ {N:Nat} {m m':gp} {i:Int} {t:fG} {x:aW} {ev:cG} (h:mN N m i=some (m',ev)) (ht:m.l[i.toNat]? = some t) (hf:¬ t.fault≠0) (hn:gP t=some x) (h0:¬ (dR m t i x).1.fault=0) :
  m'={ (dR m t i x).1 with l:=(dR m t i x).1.l.set i.toNat (dR m t i x).2.1}∧ev={ (dR m t i x).2.2 with t:=i}:=by
 unfold mN at h; rw [ht] at h; dsimp only at h; rw [if_neg hf,hn] at h; dsimp only at h; rw [if_neg h0] at h
 have:=Option.some.inj h
 exact ⟨(congrArg Prod.fst this).symm,(congrArg Prod.snd this).symm⟩
def XN:List Int:=[]++[2]++[3]++[5]++[6]++[7]++[4]++[8]++[9]++[10]
def OL (g:Nat):Value:=.func (.func g) #[] #[]
def XO:List Value:=[]++[OL 130]++[OL 131]++[OL 131]++[OL 131]++[OL 131]++[OL 132]++[OL 133]++[OL 134]++[OL 135]
theorem XP (K:World→Prop) (p:Nat) (m:gp) (n:Nat) (tp:Ptr) (t:fG) (i:Int) (x:aW) (ge gf:SV) (hk:2≤x.kind∧x.kind≤10) (yR:t.buf.length≤1000) (JT:vN m.mem) (tH:MB m.mem 1000000)
  (hxa:x.kind=2∨x.kind=4→0≤x.a∧x.a<t.aK.length) (hxb:x.kind=9∨x.kind=10→0≤x.b∧x.b<m.locks.length) (PE:x.kind=3→0≤x.b∧x.b<m.u.lines.length) :
  ∃ g,Go.Fw.look XN XO x.kind=some (OL g)∧Plain PG g∧∀ (F:Nat→Prop) (w:World),(sep (eI K tp.b m.room t) (kJ K p m n tp)).p w F→(∀ w',iF F w w'→K w')→
   Calls PG g [.pointer (some ⟨p,0,none⟩),.pointer (some ⟨tp.b,0,none⟩),.int .i64 i,Flat.val (⟨x.kind,x.a,x.b,ge,gf,x.to⟩:bU)].toArray w
    (qf λ v w'=>v=Flat.val (dR m t i x).2.2∧qy F (sep (eI K tp.b (dR m t i x).1.room (dR m t i x).2.1) (kJ K p (dR m t i x).1 n tp)) w w'):=by
 have hr:=xF (m:=m) (t:=t) (i:=i) (x:=x)
 rw [hr]
 obtain h | h | h | h | h | h | h | h | h:x.kind=2∨x.kind=3∨x.kind=4∨x.kind=5∨x.kind=6∨x.kind=7∨x.kind=8∨x.kind=9∨x.kind=10:=by omega
 ·exact ⟨130,by rw [h]; rfl,anH,λ F w hF hK=>by
   have e:dR m t i x=(m,loadT m t x,Hv m t x):=by unfold dR; rw [if_pos h]
   rw [e]; exact C130 K p m n tp t i x ge gf F w hF hK yR JT tH (hxa (.inl h))⟩
 ·exact ⟨131,by rw [h]; rfl,PO,λ F w hF hK=>by
   have e:dR m t i x=(m,uC m t x,AR m t x):=by unfold dR; simp [h]
   rw [e]; exact C131 K p m n tp t i x ge gf F w hF hK yR JT tH (.inl h) PE⟩
 ·exact ⟨132,by rw [h]; rfl,anI,λ F w hF hK=>by
   have e:dR m t i x=(yj m t x,casT m t x,Jo m t x):=by unfold dR; simp [h]
   rw [e]; exact C132 K p m n tp t i x ge gf F w hF hK yR JT tH (hxa (.inr h))⟩
 ·exact ⟨131,by rw [h]; rfl,PO,λ F w hF hK=>by
   have e:dR m t i x=(m,uC m t x,AR m t x):=by unfold dR; simp [h]
   rw [e]; exact C131 K p m n tp t i x ge gf F w hF hK yR JT tH (.inr (.inl h)) PE⟩
 ·exact ⟨131,by rw [h]; rfl,PO,λ F w hF hK=>by
   have e:dR m t i x=(m,uC m t x,AR m t x):=by unfold dR; simp [h]
   rw [e]; exact C131 K p m n tp t i x ge gf F w hF hK yR JT tH (.inr (.inr (.inl h))) PE⟩
 ·exact ⟨131,by rw [h]; rfl,PO,λ F w hF hK=>by
   have e:dR m t i x=(m,uC m t x,AR m t x):=by unfold dR; simp [h]
   rw [e]; exact C131 K p m n tp t i x ge gf F w hF hK yR JT tH (.inr (.inr (.inr h))) PE⟩
 ·exact ⟨133,by rw [h]; rfl,anJ,λ F w hF hK=>by
   have e:dR m t i x=(m,t,⟨7,0,0,0,0⟩):=by unfold dR; simp [h]
   rw [e]; exact C133 K p m n tp t i x ge gf F w hF hK yR JT tH⟩
 ·exact ⟨134,by rw [h]; rfl,anK,λ F w hF hK=>by
   have e:dR m t i x=(wT m i x,t,⟨10,0,x.b,0,0⟩):=by unfold dR; simp [h]
   rw [e]; exact C134 K p m n tp t i x ge gf F w hF hK yR JT tH (hxb (.inl h))⟩
 ·exact ⟨135,by rw [h]; rfl,anL,λ F w hF hK=>by
   have e:dR m t i x=(nJ m i x,t,uD m i x):=by unfold dR; simp [h]
   rw [e]; exact C135 K p m n tp t i x ge gf F w hF hK yR JT tH (hxb (.inr h))⟩
theorem XQ {k:Int} {g:Nat} {z:Value} (h:Go.Fw.look XN XO k=some (OL g)):(Go.Fw.look ([]++[2]++[3]++[5]++[6]++[7]++[4]++[8]++[9]++[10]) ([]++[Value.func (.func 130) #[] #[]]++[Value.func (.func 131) #[] #[]]++[Value.func (.func 131) #[] #[]]++[Value.func (.func 131) #[] #[]]++[Value.func (.func 131) #[] #[]]++[Value.func (.func 132) #[] #[]]++[Value.func (.func 133) #[] #[]]++[Value.func (.func 134) #[] #[]]++[Value.func (.func 135) #[] #[]]) k).getD z=OL g:=by
 have h2:Go.Fw.look ([]++[2]++[3]++[5]++[6]++[7]++[4]++[8]++[9]++[10]) ([]++[Value.func (.func 130) #[] #[]]++[Value.func (.func 131) #[] #[]]++[Value.func (.func 131) #[] #[]]++[Value.func (.func 131) #[] #[]]++[Value.func (.func 131) #[] #[]]++[Value.func (.func 132) #[] #[]]++[Value.func (.func 133) #[] #[]]++[Value.func (.func 134) #[] #[]]++[Value.func (.func 135) #[] #[]]) k=some (OL g):=h
 rw [h2]; rfl
theorem C62 (K:World→Prop) (p:Nat) (m:gp) (q:eo) (qv:dE) (t:fG) (F:Nat→Prop) (w:World) (hF:(eJ K p m).p w F) (hK:∀ w',iF F w w'→K w') (lZ:qE m) (tH:MB m.mem 1000000) (hq:bZ.dr w qv q) (h0:0≤q.t) (ht:m.l[q.t.toNat]? = some t):CR 62 [(.pointer (some ⟨p,0,none⟩)),Flat.val qv] w (λ v w'=>v=Flat.val (oD q.t (ep t.buf q.i))∧qy F (eJ K p (mw m t q)) w w'):=by
 have hs:=St.begin hF;obtain ⟨a,hu,hs⟩:=eJ.open hs;have wU:=hs.p4.lu;obtain ⟨Rb,rfl,ad7⟩:=hq;have yR:=(lZ.th t (List.mem_of_getElem? ht)).bl;have mG:=(List.getElem?_eq_some_iff.1 ht).1;refine aic _ _ _ _ ?_;unfold S62;refine dJ hs (λ yb w1 hs=>aN hs lG (λ CJ w2 hs=>?_));refine ⟨_,?_,λ _ _ h=>h⟩;refine aE (aA jm (have hs:=hs.drew;aB pI hs.p2.hb rfl (aA iG (aB (v:=.int .i64 ((q).t)) bL hs.p1.hb rfl ?_))));obtain ⟨js,dI⟩:=gx (a.ps) (i:=((q).t).toNat) (by omega);refine dS hs.p5 qw (by omega) (by omega) (λ _ iU=>fY hs.p5 zT iU dI ?_)
 have hs:=XF hs.p6 dI ht;obtain ⟨bp,gl,rg,cn,qQ,hs⟩:=eI.open hs;refine aE (aA mZ (aB qY hs.hb rfl (aA xo (aB (v:=.int .i64 ((q).i)) bL hs.p6.hb rfl ?_))));refine ⟨?_,?_⟩
 ·refine bI afj hs.p1 (H':=λ _=>nM bp m.room (mq t.buf q.i)) (Φ:=λ v _=>v = .tuple #[Flat.val (ep t.buf q.i),.int .i64 (AD t.buf q.i)]) (λ F2 eW eF=>?_) ?_
  ·exact C127 bp m.room t.buf q.i F2 _ eW (by omega)
  rintro _ w3 rfl hs;refine bE rfl (bE rfl (aN hs uU (λ um w4 hs=>?_)));refine ⟨aG pI (hs.p8.hb.cell rfl),?_⟩;refine ⟨aG bL (hs.p7.hb.cell rfl),?_⟩;refine ⟨Qu hs.p11 zT iU dI,?_⟩;refine ⟨aG qY (hs.p2.hb.cell rfl),?_⟩;refine ⟨aG bL (hs.p7.hb.cell rfl),?_⟩;refine aI (x:=(ep t.buf q.i)) hs lf rfl rfl (λ w5 hs=>?_);intro fD;refine aA pK (aB (v:=.int .i64 (((ep t.buf q.i)).kind)) bL hs.hb rfl (aH (aC (λ gn=>?_) (λ gn=>?_))))
  ·refine aE (aA jM (have hs:=hs.drew;aB sj hs.p8.hb rfl (aA nY (aB (v:=.int .i64 (((ep t.buf q.i)).cell)) bL hs.hb rfl (aA m4 (aB (v:=.int .i64 (((ep t.buf q.i)).n)) bL hs.hb rfl (bI UF hs.p9 (H':=λ _=>fZ a.q a.ov a.fv (iO m.mem ((ep t.buf q.i)).cell ((ep t.buf q.i)).n)) (Φ:=λ _ _=>True) (λ F2 eW eF=>?_) ?_)))))))
   ·exact (C128 a.q a.ov a.fv m.mem F2 _ _ _ eW (λ w' hc=>hu.mem _ (hK w' (eF w' hc).aF)) lZ.mem tH).mono λ _ _ r=>r.mono λ _ _ h=>⟨trivial,h.2⟩
   rintro _ pP _ hs;refine aA iG (aB (v:=.int .i64 ((q).t)) bL hs.p8.hb rfl (aA nY (aB (v:=.int .i64 (((ep t.buf q.i)).cell)) bL hs.p1.hb rfl (aA m4 (aB (v:=.int .i64 (((ep t.buf q.i)).n)) bL hs.p1.hb rfl (pop (yt _ _ _ _) (aI (x:=(⟨12,(q).t,((ep t.buf q.i)).cell,((ep t.buf q.i)).n,0⟩:cG)) hs.p7 fg rfl rfl (λ sZ hs=>aD fg hs.At ?_))))))));have hs:=(eI.shut (room:=m.room) (t:={t with buf:=mq t.buf q.i}) qQ hs.p6.p6.p5.p6).p4;have hs:=St.sr (H:=ql K m.room) (x:={t with buf:=mq t.buf q.i}) hs.p1 (by have:=(List.getElem?_eq_some_iff.1 ht).1; omega) wU dI
   have Jf:il m.mem (ep t.buf q.i)=iO m.mem (ep t.buf q.i).cell (ep t.buf q.i).n:=by unfold il; rw [if_pos gn]
   have XR:oD q.t (ep t.buf q.i)=⟨12,q.t,(ep t.buf q.i).cell,(ep t.buf q.i).n,0⟩:=by unfold oD; rw [if_pos gn]
   have hs:=(show St w F (cH p (j4 a (mw m t q))::fZ a.q a.ov a.fv (mw m t q).mem::_) _ from by unfold mw; rw [Jf]; exact hs.p7.p7.p4.p7);have hs:=eJ.shut (m:=mw m t q) ⟨hu.ln,hu.cl,hu.rc,λ w hw=>by show uy _ _ (il m.mem _) w; rw [Jf]; first | exact hu.mem w hw | exact (hu.mem w hw).write | exact (hu.mem w hw).out⟩ hs;have hs:=(((hs.p1.drop.p1).drop).p1).drop;refine ⟨?_,hs.mut⟩;rw [XR]
  ·refine aH (aC (λ jR=>?_) (λ jR=>?_))
   ·refine aA iG (aB (v:=.int .i64 ((q).t)) bL hs.p7.hb rfl (pop (Bt _ _) (aI (x:=(⟨14,(q).t,0,0,0⟩:cG)) hs.p6 fg rfl rfl (λ vy hs=>aD fg hs.At ?_))));have hs:=(eI.shut (room:=m.room) (t:={t with buf:=mq t.buf q.i}) qQ hs.p5.p5.p4.p5).p3;have hs:=St.sr (H:=ql K m.room) (x:={t with buf:=mq t.buf q.i}) hs.p1 (by have:=(List.getElem?_eq_some_iff.1 ht).1; omega) wU dI;have Jf:il m.mem (ep t.buf q.i)=m.mem:=by unfold il; rw [if_neg gn,if_pos jR]
    have XR:oD q.t (ep t.buf q.i)=⟨14,q.t,0,0,0⟩:=by unfold oD; rw [if_neg gn,if_pos jR]
    have hs:=(show St w F (cH p (j4 a (mw m t q))::fZ a.q a.ov a.fv (mw m t q).mem::_) _ from by unfold mw; rw [Jf]; exact hs.p7.p7.p7.p7);have hs:=eJ.shut (m:=mw m t q) ⟨hu.ln,hu.cl,hu.rc,λ w hw=>by show uy _ _ (il m.mem _) w; rw [Jf]; first | exact hu.mem w hw | exact (hu.mem w hw).write | exact (hu.mem w hw).out⟩ hs;have hs:=(((hs.p1.drop.p1).drop).p1).drop;refine ⟨?_,hs.mut⟩;rw [XR]
   ·refine aE (aA jM (have hs:=hs.drew;aB sj hs.p8.hb rfl (aA lg (aB (v:=.int .i64 (((ep t.buf q.i)).line)) bL hs.hb rfl (bI afk hs.p9 (H':=λ _=>fZ a.q a.ov a.fv (vM m.mem ((ep t.buf q.i)).line)) (Φ:=λ _ _=>True) (λ F2 eW eF=>?_) ?_)))))
    ·exact (C129 a.q a.ov a.fv m.mem F2 _ _ eW (λ w' hc=>hu.mem _ (hK w' (eF w' hc).aF)) lZ.mem tH).mono λ _ _ r=>r.mono λ _ _ h=>⟨trivial,h.2⟩
    rintro _ vz _ hs;refine aA iG (aB (v:=.int .i64 ((q).t)) bL hs.p8.hb rfl (aA lg (aB (v:=.int .i64 (((ep t.buf q.i)).line)) bL hs.p1.hb rfl (pop (so _ _ _) (aI (x:=(⟨13,(q).t,((ep t.buf q.i)).line,0,0⟩:cG)) hs.p7 fg rfl rfl (λ su hs=>aD fg hs.At ?_))))));have hs:=(eI.shut (room:=m.room) (t:={t with buf:=mq t.buf q.i}) qQ hs.p6.p6.p5.p6).p4;have hs:=St.sr (H:=ql K m.room) (x:={t with buf:=mq t.buf q.i}) hs.p1 (by have:=(List.getElem?_eq_some_iff.1 ht).1; omega) wU dI;have Jf:il m.mem (ep t.buf q.i)=vM m.mem (ep t.buf q.i).line:=by unfold il; rw [if_neg gn,if_neg jR]
    have XR:oD q.t (ep t.buf q.i)=⟨13,q.t,(ep t.buf q.i).line,0,0⟩:=by unfold oD; rw [if_neg gn,if_neg jR]
    have hs:=(show St w F (cH p (j4 a (mw m t q))::fZ a.q a.ov a.fv (mw m t q).mem::_) _ from by unfold mw; rw [Jf]; exact hs.p7.p7.p4.p7);have hs:=eJ.shut (m:=mw m t q) ⟨hu.ln,hu.cl,hu.rc,λ w hw=>by show uy _ _ (il m.mem _) w; rw [Jf]; first | exact hu.mem w hw | exact (hu.mem w hw).write | exact (hu.mem w hw).out⟩ hs;have hs:=(((hs.p1.drop.p1).drop).p1).drop;refine ⟨?_,hs.mut⟩;rw [XR]
 ·refine ⟨?_,?_⟩
  ·refine aN hs uU (λ ay8 w6 hs=>?_);refine ⟨aG pI (hs.p8.hb.cell rfl),?_⟩;refine ⟨aG bL (hs.p7.hb.cell rfl),?_⟩;refine ⟨Qu hs.p11 zT iU dI,?_⟩;refine ⟨aG qY (hs.p1.hb.cell rfl),?_⟩;refine ⟨aG bL (hs.p7.hb.cell rfl),?_⟩;refine bI afj hs.p2 (H':=λ _=>nM bp m.room (mq t.buf q.i)) (Φ:=λ v _=>v = .tuple #[Flat.val (ep t.buf q.i),.int .i64 (AD t.buf q.i)]) (λ F2 eW eF=>?_) ?_
   ·exact C127 bp m.room t.buf q.i F2 _ eW (by omega)
   rintro _ w7 rfl hs;refine bE rfl (bE rfl (aI (x:=(ep t.buf q.i)) hs.p1 lf rfl rfl (λ w8 hs=>?_)));intro fD;refine aA pK (aB (v:=.int .i64 (((ep t.buf q.i)).kind)) bL hs.hb rfl (aH (aC (λ gn=>?_) (λ gn=>?_))))
   ·refine aE (aA jM (have hs:=hs.drew;aB sj hs.p8.hb rfl (aA nY (aB (v:=.int .i64 (((ep t.buf q.i)).cell)) bL hs.hb rfl (aA m4 (aB (v:=.int .i64 (((ep t.buf q.i)).n)) bL hs.hb rfl (bI UF hs.p9 (H':=λ _=>fZ a.q a.ov a.fv (iO m.mem ((ep t.buf q.i)).cell ((ep t.buf q.i)).n)) (Φ:=λ _ _=>True) (λ F2 eW eF=>?_) ?_)))))))
    ·exact (C128 a.q a.ov a.fv m.mem F2 _ _ _ eW (λ w' hc=>hu.mem _ (hK w' (eF w' hc).aF)) lZ.mem tH).mono λ _ _ r=>r.mono λ _ _ h=>⟨trivial,h.2⟩
    rintro _ pP _ hs;refine aA iG (aB (v:=.int .i64 ((q).t)) bL hs.p8.hb rfl (aA nY (aB (v:=.int .i64 (((ep t.buf q.i)).cell)) bL hs.p1.hb rfl (aA m4 (aB (v:=.int .i64 (((ep t.buf q.i)).n)) bL hs.p1.hb rfl (pop (yt _ _ _ _) (aI (x:=(⟨12,(q).t,((ep t.buf q.i)).cell,((ep t.buf q.i)).n,0⟩:cG)) hs.p7 fg rfl rfl (λ sZ hs=>aD fg hs.At ?_))))))));have hs:=(eI.shut (room:=m.room) (t:={t with buf:=mq t.buf q.i}) qQ hs.p6.p6.p5.p6).p4;have hs:=St.sr (H:=ql K m.room) (x:={t with buf:=mq t.buf q.i}) hs.p1 (by have:=(List.getElem?_eq_some_iff.1 ht).1; omega) wU dI
    have Jf:il m.mem (ep t.buf q.i)=iO m.mem (ep t.buf q.i).cell (ep t.buf q.i).n:=by unfold il; rw [if_pos gn]
    have XR:oD q.t (ep t.buf q.i)=⟨12,q.t,(ep t.buf q.i).cell,(ep t.buf q.i).n,0⟩:=by unfold oD; rw [if_pos gn]
    have hs:=(show St w F (cH p (j4 a (mw m t q))::fZ a.q a.ov a.fv (mw m t q).mem::_) _ from by unfold mw; rw [Jf]; exact hs.p7.p7.p4.p7);have hs:=eJ.shut (m:=mw m t q) ⟨hu.ln,hu.cl,hu.rc,λ w hw=>by show uy _ _ (il m.mem _) w; rw [Jf]; first | exact hu.mem w hw | exact (hu.mem w hw).write | exact (hu.mem w hw).out⟩ hs;have hs:=(((hs.p1.drop.p1).drop).p1).drop;refine ⟨?_,hs.mut⟩;rw [XR]
   ·refine aH (aC (λ jR=>?_) (λ jR=>?_))
    ·refine aA iG (aB (v:=.int .i64 ((q).t)) bL hs.p7.hb rfl (pop (Bt _ _) (aI (x:=(⟨14,(q).t,0,0,0⟩:cG)) hs.p6 fg rfl rfl (λ vy hs=>aD fg hs.At ?_))));have hs:=(eI.shut (room:=m.room) (t:={t with buf:=mq t.buf q.i}) qQ hs.p5.p5.p4.p5).p3;have hs:=St.sr (H:=ql K m.room) (x:={t with buf:=mq t.buf q.i}) hs.p1 (by have:=(List.getElem?_eq_some_iff.1 ht).1; omega) wU dI;have Jf:il m.mem (ep t.buf q.i)=m.mem:=by unfold il; rw [if_neg gn,if_pos jR]
     have XR:oD q.t (ep t.buf q.i)=⟨14,q.t,0,0,0⟩:=by unfold oD; rw [if_neg gn,if_pos jR]
     have hs:=(show St w F (cH p (j4 a (mw m t q))::fZ a.q a.ov a.fv (mw m t q).mem::_) _ from by unfold mw; rw [Jf]; exact hs.p7.p7.p7.p7);have hs:=eJ.shut (m:=mw m t q) ⟨hu.ln,hu.cl,hu.rc,λ w hw=>by show uy _ _ (il m.mem _) w; rw [Jf]; first | exact hu.mem w hw | exact (hu.mem w hw).write | exact (hu.mem w hw).out⟩ hs;have hs:=(((hs.p1.drop.p1).drop).p1).drop;refine ⟨?_,hs.mut⟩;rw [XR]
    ·refine aE (aA jM (have hs:=hs.drew;aB sj hs.p8.hb rfl (aA lg (aB (v:=.int .i64 (((ep t.buf q.i)).line)) bL hs.hb rfl (bI afk hs.p9 (H':=λ _=>fZ a.q a.ov a.fv (vM m.mem ((ep t.buf q.i)).line)) (Φ:=λ _ _=>True) (λ F2 eW eF=>?_) ?_)))))
     ·exact (C129 a.q a.ov a.fv m.mem F2 _ _ eW (λ w' hc=>hu.mem _ (hK w' (eF w' hc).aF)) lZ.mem tH).mono λ _ _ r=>r.mono λ _ _ h=>⟨trivial,h.2⟩
     rintro _ vz _ hs;refine aA iG (aB (v:=.int .i64 ((q).t)) bL hs.p8.hb rfl (aA lg (aB (v:=.int .i64 (((ep t.buf q.i)).line)) bL hs.p1.hb rfl (pop (so _ _ _) (aI (x:=(⟨13,(q).t,((ep t.buf q.i)).line,0,0⟩:cG)) hs.p7 fg rfl rfl (λ su hs=>aD fg hs.At ?_))))));have hs:=(eI.shut (room:=m.room) (t:={t with buf:=mq t.buf q.i}) qQ hs.p6.p6.p5.p6).p4;have hs:=St.sr (H:=ql K m.room) (x:={t with buf:=mq t.buf q.i}) hs.p1 (by have:=(List.getElem?_eq_some_iff.1 ht).1; omega) wU dI;have Jf:il m.mem (ep t.buf q.i)=vM m.mem (ep t.buf q.i).line:=by unfold il; rw [if_neg gn,if_neg jR]
     have XR:oD q.t (ep t.buf q.i)=⟨13,q.t,(ep t.buf q.i).line,0,0⟩:=by unfold oD; rw [if_neg gn,if_neg jR]
     have hs:=(show St w F (cH p (j4 a (mw m t q))::fZ a.q a.ov a.fv (mw m t q).mem::_) _ from by unfold mw; rw [Jf]; exact hs.p7.p7.p4.p7);have hs:=eJ.shut (m:=mw m t q) ⟨hu.ln,hu.cl,hu.rc,λ w hw=>by show uy _ _ (il m.mem _) w; rw [Jf]; first | exact hu.mem w hw | exact (hu.mem w hw).write | exact (hu.mem w hw).out⟩ hs;have hs:=(((hs.p1.drop.p1).drop).p1).drop;refine ⟨?_,hs.mut⟩;rw [XR]
  ·trivial
set_option maxHeartbeats 1000000 in
theorem C63 (K:World→Prop) (p:Nat) (m:gp) (N:Nat) (i:Int) (t:fG) (m2:gp) (ev:cG) (F:Nat→Prop) (w:World) (hF:(eJ K p m).p w F) (hK:∀ w',iF F w w'→K w') (lZ:qE m) (tH:MB m.mem 1000000) (h0:0≤i) (ht:m.l[i.toNat]? = some t) (sM:mN N m i=some (m2,ev)):CR 63 [(.pointer (some ⟨p,0,none⟩)),.int .i64 i] w (λ v w'=>v=Flat.val ev∧qy F (eJ K p m2) w w'):=by
 have hs:=St.begin hF;obtain ⟨a,hu,hs⟩:=eJ.open hs;have wU:=hs.p4.lu;have Bf:=List.mem_of_getElem? ht;have oM:=lZ.th t Bf;have mG:=(List.getElem?_eq_some_iff.1 ht).1;refine aid _ _ _ _ ?_;unfold S63;refine aN hs lG (λ CJ w1 hs=>aE (aA jm (aB pI hs.p1.hb rfl ?_)));obtain ⟨pS,jZ⟩:=gx (a.ps) (i:=(i).toNat) (by omega);refine dS hs.p4 qw (by omega) (by omega) (λ _ ri=>fY hs.p4 zT ri jZ ?_);have hs:=XF hs.p5 jZ ht;obtain ⟨bp,gl,rg,cn,qQ,hs⟩:=eI.open hs;refine aE (aA tQ (aB bL hs.hb rfl (cR (aC (λ gz=>?_) (λ gz=>?_)))))
 ·refine aE (aA tQ (aB bL hs.hb rfl (aE (aA nX (aV hs.p6 bL (eK rfl) (rfl) (λ w2 hs=>aE (aA DV (aV hs bL (eK rfl) (rfl) (λ w3 hs=>aE (aA tQ (aB bL hs.p1.hb rfl (pop (so _ _ _) ?_))))))))))));refine aI (x:=(⟨16,i,t.fault,0,0⟩:cG)) hs.p6 fg rfl rfl (λ w4 hs=>aD fg hs.At ?_);have hs:=St.sr (H:=ql K m.room) (x:=t) (((eI.shut (room:=m.room) (t:=t) qQ hs.p5.p5.p5.p5).p3).p1) (by have:=(List.getElem?_eq_some_iff.1 ht).1; omega) wU jZ;rw [uY ht] at hs;have hs:=eJ.shut (m:={m with fault:=t.fault,mv:=i}) ⟨hu.ln,hu.cl,hu.rc,hu.mem⟩ hs.p5.p5.p5.p5
  have hs:=(hs.p1).drop;obtain ⟨rfl,rfl⟩:=xG sM ht gz;exact ⟨rfl,hs.mut⟩
 ·have hs:=eI.shut (room:=m.room) (t:=t) qQ hs.p3.p3.p3.p3;obtain ⟨x,vE⟩:=xH sM ht gz;refine eA ZD (C65 K pS.b m.room t _ (hs).has (hK _ hs.aF) oM) ?_;rintro v41 w5 hh;obtain ⟨x2,xv,ay9,hxv,rfl,he⟩:=hh.resolve_left (λ h=>by rw [vE] at h; cases h.1);obtain rfl:x=x2:=Option.some.inj (vE.symm.trans ay9);have hs:=hs.ext he;have hxm:=pj vE;obtain ⟨ge,gf,rfl,_,_⟩:=hxv _ (hK _ hs.aF);have hkd:=lZ.st t Bf x vE (by omega);refine bE rfl (bE rfl (aN hs mF (λ OA w6 hs=>have hs:=hs.enc (cs':=Flat.enc (⟨0,0,0,⟨none,0,0⟩,⟨none,0,0⟩,0⟩:bU)) rfl;aI (x:=(⟨x.kind,x.a,x.b,ge,gf,x.to⟩:bU)) hs lM rfl rfl (λ w7 hs=>wP hs (λ b_x44 w8 hs=>ik hs Tryz.underlying211 oT (by decide) (λ w9 hs=>ik hs Tryz.underlying211 oT (by decide) (λ pP hs=>ik hs Tryz.underlying211 oT (by decide) (λ sZ hs=>ik hs Tryz.underlying211 oT (by decide) (λ vy hs=>ik hs Tryz.underlying211 oT (by decide) (λ vz hs=>ik hs Tryz.underlying211 oT (by decide) (λ su hs=>ik hs Tryz.underlying211 oT (by decide) (λ wm hs=>ik hs Tryz.underlying211 oT (by decide) (λ zq hs=>?_)))))))))))))
  refine ik hs Tryz.underlying211 oT (by decide) (λ CH hs=>aA jn (aB (v:=.int .i64 x.kind) bL hs.p1.hb rfl ?_));have hrl:=oM.rg;have J2:=lZ.lk;obtain ⟨g,arV,vv,l4⟩:=XP K p m i.toNat pS t i x ge gf hkd oM.bl lZ.mem tH (λ h=>by have:=lZ.arK t Bf x hxm.1 h; omega) (λ h=>by have:=lZ.lkb t Bf x hxm.1 h; omega) (lZ.lnb t Bf x hxm.1);refine ⟨_,pg hs.AE Tryz.underlying211 oT ab5,?_⟩;rw [XQ arV];refine aD lM hs.p1.At (have hs:=kJ.shut (m:=m) (⟨hu,jZ,wU,by omega⟩) hs.p3.p8.p8.p8.p8;have hs:=St.join hs.p3;Xw (first:=[]) (cap:=[]) vv hs (H':=λ _=>sep (eI K pS.b (dR m t i x).1.room (dR m t i x).2.1) (kJ K p (dR m t i x).1 i.toNat pS)) (Φ:=λ v _=>v=Flat.val (dR m t i x).2.2) (λ F2 eW eF=>?_) ?_)
  ·exact l4 F2 _ eW (λ w' hc=>hK w' (eF w' hc).aF)
  rintro _ IN rfl hs;refine aN hs lG (λ b_e9 JQ hs=>aI (x:=(dR m t i x).2.2) hs fg rfl rfl (λ Lc hs=>aA zQ (aV hs bL (eK rfl) (rfl) (λ M4 hs=>?_))));have hs:=hs.enc (cs':=Flat.enc ({ (dR m t i x).2.2 with t:=i}:cG)) rfl;refine ⟨_,?_,λ _ h=>h⟩;refine aE ?_;have hs:=hs.p1.split.p1;obtain ⟨a2,hx,hs⟩:=kJ.open hs;refine aA nX (aB bL hs.hb rfl (aH (aC (λ kF=>?_) (λ kF=>?_))))
  ·have hs:=kJ.shut (m:=(dR m t i x).1) (hx) hs.p4.p4.p4.p4.p4;obtain ⟨t2,hg,rfl,rfl⟩:=xI sM ht gz vE kF;have te:(dR m t i x).2.1.at_=t.at_:=Df;have QO:=oM.code.len;have ay2:=oM.T0;have hs:=hs.p1;obtain ⟨bp,gl,rg,cn,qQ,hs⟩:=eI.open hs;refine aE (aA kr (aB bL hs.hb rfl (aO (by omega) (aE (aA kr (aV hs bL (eK rfl) (rfl) (λ QS hs=>?_)))))));have hs:=eI.shut (room:=(dR m t i x).1.room) (t:=(⟨(dR m t i x).2.1.code,((dR m t i x).2.1.at_+1),(dR m t i x).2.1.aK,(dR m t i x).2.1.counts,(dR m t i x).2.1.fault,(dR m t i x).2.1.e,(dR m t i x).2.1.f,(dR m t i x).2.1.buf⟩:fG)) qQ hs.p3.p3.p3.p3
   have tA:=Rd (m:=m) (t:=t) (i:=i) (x:=x) oM lZ.rm.2;have XS:Hp { (dR m t i x).2.1 with at_:=(dR m t i x).2.1.at_+1}:=⟨tA.code,tA.rg,tA.cn,by dsimp only; omega,tA.bl⟩;refine bI aff hs (H':=λ _=>eI K pS.b (dR m t i x).1.room t2) (Φ:=λ _ _=>True) (λ F2 eW eF=>?_) ?_
   ·exact (C122 K pS.b (dR m t i x).1.room { (dR m t i x).2.1 with at_:=(dR m t i x).2.1.at_+1} t2 N F2 _ eW (λ w' hc=>hK w' (eF w' hc).aF) XS hg).mono λ _ _ r=>r.mono λ _ _ h=>⟨trivial,h.2⟩
   rintro _ T3 _ hs;intro fD;refine aD fg hs.p2.At (aI (x:=({ (dR m t i x).2.2 with t:=i}:cG)) hs.p5 fg rfl rfl (λ SB hs=>aD fg hs.At ?_));have hs:=((((((((Mg hs.p2.p2).p1).drop).p1).drop).p1).drop).p1).drop;exact ⟨rfl,hs.mut⟩
  ·intro fD;refine aD fg hs.p6.At (aI (x:=({ (dR m t i x).2.2 with t:=i}:cG)) hs.p9 fg rfl rfl (λ SB hs=>aD fg hs.At ?_));have hs:=((((Mg ((kJ.shut (m:=(dR m t i x).1) (hx) hs.p5.p5.p5.p5.p5).p2)).p1).drop).p1).drop;have hs:=((hs.p1.drop).p1).drop;obtain ⟨rfl,rfl⟩:=xJ sM ht gz vE kF;exact ⟨rfl,hs.mut⟩
end Go.Proofs.YtnjcingfdhjfkaaGreat
namespace Go.Fw
def Dg (F:Nat→Prop) (w0 w':World):Prop:=∀ b,F b→w'.heap[b]? = w0.heap[b]?
section
variable {α σ:Type} [Flat σ] [D:bZ α σ] {w w0:World} {A F:Nat→Prop} {L:List HP} {v:Value} {xs:List α} {ts us:List σ}
theorem St.arW {Φ:World→Prop} (hs:St w0 A (Fw.eL Φ::L) w):∃ F,St w0 A (Fw.eL (Dg F w)::L) w∧∀ w',Dg F w w'→Φ w':=by
 obtain ⟨U,F,U',g1,g2,g3,g4,g5⟩:=hs.sU
 exact ⟨F,⟨hs.aF,U,F,U',⟨λ w' h=>h,g1.2⟩,g2,g3,g4,g5⟩,λ w' h=>g1.1 w' h⟩
theorem Dg.refl (F:Nat→Prop) (w:World):Dg F w w:=λ _ _=>rfl
theorem Mh (inj:∀ x y:σ,Flat.enc x=Flat.enc y→x=y):∀ {ts us:List σ},ts.length=us.length→flat ts=flat us→ts=us
 | [],[],_,_=>rfl
 | t::ts,u::us,hl,h=>by
  rw [jh,jh] at h
  have:=List.append_inj h (by rw [Flat.len,Flat.len])
  rw [inj _ _ this.1,Mh inj (by simpa using hl) this.2]
 | [],_::_,hl,_=>by simp at hl
 | _::_,[],hl,_=>by simp at hl
theorem eP.func {S S':Nat→Prop} (inj:∀ x y:σ,Flat.enc x=Flat.enc y→x=y) (h:eP S w v ts) (h':eP S' w v us):ts=us:=by
 obtain ⟨a,cap,rfl,hc,h3⟩:=h
 obtain ⟨a',Kw,hv,hc',h3'⟩:=h'
 simp only [Value.slice.injEq] at hv
 obtain ⟨rfl,hl,rfl⟩:=hv
 refine Mh inj hl (List.ext_getElem? λ j=>?_)
 have CE:(flat ts).length=(flat us).length:=by rw [cW,cW,hl]
 by_cases hj:j<(flat ts).length
 ·have hj':j<(flat us).length:=by omega
  rcases h3 with ⟨rfl,_⟩ | ⟨b,o,rfl,_,h5⟩
  ·simp [kq] at hj
  ·rcases h3' with ⟨rfl,_⟩ | ⟨b',o',ha,_,h5'⟩
   ·simp [kq] at hj'
   ·simp only [Option.some.injEq,Addr.mk.injEq,and_true] at ha
    obtain ⟨rfl,rfl⟩:=ha
    have c1:=h5 j _ (List.getElem?_eq_getElem hj)
    have c2:=h5' j _ (List.getElem?_eq_getElem hj')
    unfold Cell at c1 c2
    rw [List.getElem?_eq_getElem hj,List.getElem?_eq_getElem hj']
    exact c1.symm.trans c2
 ·rw [List.getElem?_eq_none (by omega),List.getElem?_eq_none (by omega)]
theorem Dg.rd (h:∀ w',Dg F w w'→DL w' v xs) (hr:eP (λ _=>True) w v ts) (hn:ts.length=xs.length):∀ w',Dg F w w'→eP (λ _=>True) w' v ts:=by
 intro w' hw
 have hr0:=hr
 obtain ⟨a,cap,rfl,hc,h3⟩:=hr
 rcases h3 with ⟨h3,h4⟩ | ⟨b,o,rfl,h4,h5⟩
 ·exact ⟨a,cap,rfl,hc,.inl ⟨h3,h4⟩⟩
 ·cases ts with
  | nil=>exact ⟨_,cap,rfl,hc,.inr ⟨b,o,rfl,λ h=>absurd rfl h,λ j c hj=>by simp [kq] at hj⟩⟩
  | cons t ts=>
   by_cases hF:F b
   ·exact ⟨_,cap,rfl,hc,.inr ⟨b,o,rfl,λ _=>trivial,λ j c hj=>(h5 j c hj).of_eq (hw b hF)⟩⟩
   ·exfalso
    have h6:DL (ChangeMaps.setBlock w b (.map #[] 0)) (.slice (some ⟨b,o,none⟩) (t::ts).length cap) xs:=h _ λ b' hb'=>by
     simp only [ChangeMaps.setBlock]; exact Array.getElem?_setIfInBounds_ne (λ e=>hF (by rw [e]; exact hb'))
    obtain ⟨us,⟨a',Kw,hv,_,h7⟩,hul,_⟩:=h6
    simp only [Value.slice.injEq] at hv
    obtain ⟨rfl,hl,rfl⟩:=hv
    have zM:0<(flat us).length:=by rw [cW,← hl]; exact Nat.mul_pos (by simp) (Flat.pos (α:=σ))
    rcases h7 with ⟨rfl,_⟩ | ⟨b',o',ha,_,h8⟩
    ·simp at hl
    ·simp only [Option.some.injEq,Addr.mk.injEq,and_true] at ha
     obtain ⟨rfl,rfl⟩:=ha
     have zL:=h8 0 _ (List.getElem?_eq_getElem zM)
     have hb:=(h5 0 _ (List.getElem?_eq_getElem (by rw [cW]; exact Nat.mul_pos (by simp) (Flat.pos (α:=σ))))).lt
     unfold Cell World.cell? at zL
     dsimp only at zL
     rw [mu _ hb] at zL
     simp at zL
theorem Dg.fix (inj:∀ x y:σ,Flat.enc x=Flat.enc y→x=y) (h:∀ w',Dg F w w'→DL w' v xs):∃ ts:List σ,ts.length=xs.length∧∀ w',Dg F w w'→eP (λ _=>True) w' v ts∧jV ts xs w':=by
 obtain ⟨ts,hr,hd⟩:=(h w (Dg.refl F w)).open
 refine ⟨ts,hd.1,λ w' hw=>?_⟩
 have h1:=Dg.rd h hr hd.1 w' hw
 obtain ⟨us,Y3,hd'⟩:=(h w' hw).open
 rw [eP.func inj h1 Y3] at *
 exact ⟨Y3,hd'⟩
end
section
variable {P:Program} {T:Nat} {cx cy:Bool} {a b:Int} {K:Value→Prop}
theorem XT (h:0≤a - b∧a - b≤255) (k:K (.int .u8 (a - b))):cZ P (iP .sub T cx cy (.int .u8 a) (.int .u8 b)) K:=
 ⟨_,(show pr P (iP .sub T cx cy (.int .u8 a) (.int .u8 b))=some (.int .u8 (a - b)) from by
  show some (Value.int .u8 (IntKind.u8.wrap (a - b)))=_
  have:IntKind.u8.wrap (a - b)=a - b:=by
   unfold IntKind.wrap; simp [IntKind.bits,IntKind.signed]; omega
  rw [this]),k⟩
theorem S3 {src dst:TypeId} (h1:P.underlying src=some (.int .u8)) (h2:P.underlying dst=some (.int .i64)) (h:0≤a∧a≤255) (k:K (.int .i64 a)):cZ P (convert src dst (.int .u8 a)) K:=by
 refine ⟨_,?_,k⟩
 unfold convert
 simp only [cP,cO h1,cO h2,Option.bind_some]
 show some (Value.int .i64 (IntKind.i64.wrap a))=_
 rw [IntWalk.i64_in _ (by omega)]
end
end Go.Fw
namespace Go.Proofs.YtnjcingfdhjfkaaGreat
open Go.Fw
def qc (c:fu):fG:=⟨c,0,List.replicate c.aK.toNat 0,List.replicate c.counts.toNat 0,0,0,0,[]⟩
def rL (N:Nat) (cs:List fu) (ts:List fG):Prop:=ts.length=cs.length∧∀ (j:Nat) (c:fu) (t:fG),cs[j]? = some c→ts[j]? = some t→rZ N (qc c)=some t
theorem Jp {c:fu} (h:BZ c):Hp (qc c):=⟨h,by have:=h.rb; simp [qc]; omega,by have:=h.cb; simp [qc]; omega,by simp [qc],by simp [qc]⟩
def arX (K:World→Prop) (OM:List cN) (cs:List fu):Prop:=OM.length=cs.length∧∀ (j:Nat) (cv:cN) (c:fu),OM[j]? = some cv→cs[j]? = some c→∃ gl:SV,cv=⟨c.aK,c.counts,gl⟩∧Fp K (Flat.val gl) c.l
theorem ON (x y:cN) (h:Flat.enc x=Flat.enc y):x=y:=by
 obtain ⟨a,b,⟨c,d,e⟩⟩:=x; obtain ⟨a',b',⟨c',d',e'⟩⟩:=y; simp [Flat.enc] at h; simp [h]
theorem Mi (x y:bU) (h:Flat.enc x=Flat.enc y):x=y:=by
 obtain ⟨a,b,c,⟨d,e,f⟩,⟨g,i,j⟩,k⟩:=x; obtain ⟨a',b',c',⟨d',e',f'⟩,⟨g',i',j'⟩,k'⟩:=y; simp [Flat.enc] at h; simp [h]
theorem Mj {F:Nat→Prop} {w1:World} {gl:Value} {l:List aW} (h:∀ w',Dg F w1 w'→DL w' gl l):Fp (Dg F w1) gl l:=by
 obtain ⟨ts,_,h2⟩:=Dg.fix Mi h; exact ⟨ts,h2⟩
def lU (u:im) (room:Int):gp:=⟨u,room,Xx u.lines u.stays u.dH,[],[],0,0,0⟩
def lK (m:gp) (ts:List fG):gp:={m with locks:=List.replicate m.u.locks.toNat (-1),l:=ts}
theorem XU {w w0:World} {A:Nat→Prop} {L:List HP} {p q:Nat} {u:im} {room:Int} {sh:dQ} {ov fv:SV}
  (hs:St w0 A (cH p (j4 ⟨sh.lines,sh.dH,sh.threads,sh.recover.l,sh.cD,q,Flat.val ov,Flat.val fv,.slice none 0 0,.slice none 0 0,[]⟩ (lU u room)) ::
   fZ q (Flat.val ov) (Flat.val fv) (Xx u.lines u.stays u.dH)::bK (Flat.val ov) (u.lines.take u.stays.toNat)::bK (Flat.val fv) u.dH::eL (λ w=>bZ.dr w sh u)::L) w) :
  ∃ (K:World→Prop) (OM:List cN),St w0 A (eJ K p (lU u room)::eL K::L) w∧(∀ w,K w→eP (λ _=>True) w (Flat.val sh.threads) OM)∧arX K OM u.threads:=by
 have h1:=hs.p2.freeze
 have h2:=(h1.p3.freeze).p1.fP
 have h3:=(h2.p3.p1.fP)
 obtain ⟨F,h4,h5⟩:=h3.arW
 have hd:∀ w',Dg F w w'→bZ.dr w' sh u:=λ w' h=>by have:=h5 w' h; first | exact this.1 | exact this.2 | exact this.1.1 | exact this.2.2
 have hov:∀ w',Dg F w w'→eP (λ _=>True) w' (Flat.val ov) (u.lines.take u.stays.toNat):=λ w' h=>by have:=h5 w' h; first | exact this.1.1 | exact this.1.2 | exact this.2.1 | exact this.2.2
 have hfv:∀ w',Dg F w w'→eP (λ _=>True) w' (Flat.val fv) u.dH:=λ w' h=>by have:=h5 w' h; first | exact this.1.1 | exact this.1.2 | exact this.2.1 | exact this.2.2
 have hth:∀ w',Dg F w w'→DL w' (Flat.val sh.threads) u.threads:=λ w' h=>by obtain ⟨_,_,_,_,_,e,q1,q2,q3,q4,q5⟩:=hd w' h; rw [e]; exact q3
 obtain ⟨OM,QO,SM⟩:=Dg.fix ON hth
 refine ⟨Dg F w,OM,?_,λ w' h=>(SM w' h).1,QO,λ j cv c h1 h2=>?_⟩
 ·have h6:St w0 A (iH (ql (Dg F w) room) [] []::_) w:=h4.new (Ext.refl w) (F:=bD) (λ _ h=>h) λ _ h=>h.elim
  have h7:=((h6.fX (α:=Ptr)).fX (α:=Int))
  refine eJ.shut (a:=⟨sh.lines,sh.dH,sh.threads,sh.recover.l,sh.cD,q,Flat.val ov,Flat.val fv,.slice none 0 0,.slice none 0 0,[]⟩) (m:=lU u room) ⟨λ w' h=>?_,λ w' h=>?_,Mj λ w' h=>?_,λ w' h=>⟨hov w' h,hfv w' h⟩⟩ h7.p5.p5
  ·obtain ⟨_,_,_,_,_,e,q1,q2,q3,q4,q5⟩:=hd w' h; rw [e]; exact DL.flat q1
  ·obtain ⟨_,_,_,_,_,e,q1,q2,q3,q4,q5⟩:=hd w' h; rw [e]; exact q5
  ·obtain ⟨_,_,_,_,_,e,q1,q2,q3,q4,q5⟩:=hd w' h; rw [e]
   obtain ⟨g,e2,q6⟩:=q4; rw [e2]; exact q6
 ·have hh:∀ w',Dg F w w'→bZ.dr w' cv c:=λ w' h=>(SM w' h).2.2 j cv c h1 h2
  obtain ⟨gl,e,_⟩:=hh w (Dg.refl F w)
  subst e
  exact ⟨gl,rfl,Mj λ w' h=>by obtain ⟨gl',e,h6⟩:=hh w' h; cases e; exact h6⟩
structure Re (N:Nat) (u:im) (ths:List fG):Prop where
 b:rL N u.threads ths
 co:∀ c∈u.threads,BZ c
 len:u.lines.length=u.dH.length
 l20:u.lines.length≤20
 st:0≤u.stays∧u.stays≤u.lines.length
 ln:∀ (k:Nat) (n:Int),(k:Int)<u.stays→u.lines[k]? = some n→(n=lz u.lines k∨(0<k∧n=lz u.lines k - 1))∧-10≤n∧n≤100
 lk:0≤u.locks∧u.locks≤1000
set_option maxHeartbeats 1000000 in
theorem C55 (K:World→Prop) (p:Nat) (m:gp) (N:Nat) (Mk:List fu) (ths:List fG) (lv:Value) (OM:List cN) (F:Nat→Prop) (w:World) (hF:(eJ K p m).p w F) (hK:∀ w',iF F w w'→K w') (hrm:1≤m.room∧m.room≤16) (J2:0≤m.u.locks∧m.u.locks≤1000) (hl:∀ w',iF F w w'→eP (λ _=>True) w' lv OM) (SM:arX K OM Mk) (azb:∀ c∈Mk,BZ c) (hb:rL N Mk ths) (hn:Mk.length≤1000):CR 55 [(.pointer (some ⟨p,0,none⟩)),lv] w (λ v w'=>v = .tuple #[]∧qy F (eJ K p (lK m ths)) w w'):=by
 have hs:=St.begin hF;obtain ⟨a,hu,hs⟩:=eJ.open hs;have wU:=hs.p4.lu;have hcvl:=SM.1;refine ah5 _ _ _ _ ?_;unfold S55;refine aE (aA jm (aV hs pI (eK rfl) (rfl) (λ w1 hs=>aE (aA nW (aV hs eB (eK rfl) (rfl) (λ w2 hs=>aE (aA tP (aA C3 (aB bL hs.hb rfl ?_)))))))));have hs:=(((hs.p3.drop.p3.drop.p2.drop.fX (α:=Int)).p2).p1).p2;refine ⟨λ mm x w'=>∃ (k:Nat) (HZ:Value),x = .int .i64 (k:Int)∧mm=m.u.locks.toNat - k∧k≤m.u.locks.toNat∧St w F [cH p (j4 {a with lk:=HZ,ll:=.slice none 0 0} m),bK HZ (List.replicate k (-1:Int)),fZ a.q a.ov a.fv m.mem] w',⟨_,0,_,rfl,rfl,Nat.zero_le _,hs⟩,?_⟩
 rintro mm _ w3 ⟨k,HZ,rfl,rfl,TU,hs⟩ fD;refine aR (aC (λ gz=>?_) (λ gz=>?_))
 ·refine aE (aA nW (aB eB hs.hb rfl (bV (([-1]:List Int)) hs eh rfl rfl (eK rfl) (λ QC w4 hs=>?_))));have EJ:=(hs).fF;refine cS hs.p2 eh EJ (by rw [List.length_replicate,List.length_singleton]; omega) (by decide) (λ arY w5 hs=>have hs:=hs.p1.drop;aE (aA nW (aV hs.p1 eB (eK rfl) ((hs).fF.one) (λ w6 hs=>aO (by omega) ?_))));have hs:=hs.p2.p2.p2;exact ⟨_,by omega,k+1,arY,rfl,rfl,by omega,by rw [List.replicate_succ']; exact hs⟩
 ·refine aJ Bs (hl _ hs.aF) ?_;have hs:=hs.p1;rw [show k=m.u.locks.toNat from by omega] at hs;have hs:=((((((hs.KZ (H:=ql K m.room)).fX (α:=Ptr)).p4).p3).p3).p3).p4;refine ⟨λ mm x w'=>∃ (j:Nat) (XV:Value) (ps:List Ptr),x = .int .i64 (j:Int)∧mm=OM.length - j∧j≤OM.length∧St w F [cH p (j4 {a with lk:=HZ,ll:=XV} m),bK XV ps,iH (ql K m.room) ps (ths.take j),bK HZ (List.replicate m.u.locks.toNat (-1:Int)),fZ a.q a.ov a.fv m.mem] w',⟨_,0,_,_,rfl,rfl,Nat.zero_le _,hs⟩,?_⟩;rintro mm _ w7 ⟨j,XV,ps,rfl,rfl,hj1,hs⟩ jH;refine aR (aC (λ jC=>?_) (λ jC=>?_))
  ·refine ⟨_,?_,λ _ h=>h⟩;obtain ⟨agK,Fc⟩:=gx (OM) (i:=((j:Int)).toNat) (by omega);refine aQ Bs (hl _ hs.aF) (by omega) Fc (λ _ uf=>?_);obtain ⟨c,hc⟩:∃ c,Mk[j]? = some c:=⟨_,List.getElem?_eq_getElem (by have:=SM.1; omega)⟩;obtain ⟨t1,ht1⟩:∃ t,ths[j]? = some t:=⟨_,List.getElem?_eq_getElem (by have:=SM.1; have:=hb.1; omega)⟩;have hg:=hb.2 j c t1 hc ht1;obtain ⟨gl,Ip,arZ⟩:=SM.2 j _ _ Fc hc;subst Ip;have hco:=azb c (List.mem_of_getElem? hc);have Zg:=hco.rb;have hcb:=hco.cb;refine aD qg (uf) (aN hs Iu (λ akg w8 hs=>have hs:=hs.enc (cs':=Flat.enc (⟨0,0,⟨none,0,0⟩⟩:cN)) rfl;aI (x:=(⟨c.aK,c.counts,gl⟩:cN)) hs qg rfl rfl (λ w9 hs=>aE (aA UR (aB bL hs.p1.hb rfl (eA anr (C52 m.room _) ?_))))))
   rintro v43 pP hh;obtain ⟨_,_,b52,rfl,cA⟩:=hh.resolve_left (λ h=>by omega);have hs:=hs.made cA;refine bE rfl (bE rfl ?_);refine ⟨λ t8 w'=>∃ tb,t8 = .pointer (some ⟨tb,0,none⟩)∧St w F [eI K tb m.room (qc c),cH akg (Flat.enc (⟨c.aK,c.counts,gl⟩:cN)),cH p (j4 {a with lk:=HZ,ll:=XV} m),bK XV ps,iH (ql K m.room) ps (ths.take j),bK HZ (List.replicate m.u.locks.toNat (-1:Int)),fZ a.q a.ov a.fv m.mem] w',?_,?_⟩
   ·have hs:=hs.drew;refine aD qg hs.p1.At (aA xk (aB (v:=.int .i64 c.aK) bL hs.p1.hb rfl (aA C2 (aB (v:=.int .i64 c.counts) bL hs.p1.hb rfl ?_))));refine ⟨?_,?_⟩
    ·refine vZ (0:Int) hs eh Cg (by omega) (by omega) (by decide) (λ Wa sZ hs=>?_);refine ⟨eO qg hs.p2.At,?_⟩;refine ⟨aG bL (hs.p2.hb.cell rfl),?_⟩;refine vZ (0:Int) hs eh Cg (by omega) (by omega) (by decide) (λ s_x53 vy hs=>?_);refine ⟨eO qg hs.p3.At,?_⟩;refine ⟨aG bL (hs.p3.hb.cell rfl),?_⟩;obtain ⟨azc,rfl⟩:=(hs.p1).fU;obtain ⟨OO,rfl⟩:=(hs).fU;refine pop (wg _ _ _ _ _ _ _ _ _ _ _ _) (l5 hs (λ b_x55 vz hs=>?_));have hs:=hs.p9.p9.p9.p9.p9.p9.p7.p8.p9.p9;exact ⟨_,rfl,eI.shut (t:=qc c) arZ hs⟩
    ·refine ⟨?_,?_⟩
     ·refine vZ (0:Int) hs eh Cg (by omega) (by omega) (by decide) (λ aul su hs=>?_);refine ⟨eO qg hs.p2.At,?_⟩;refine ⟨aG bL (hs.p2.hb.cell rfl),?_⟩;refine vZ (0:Int) hs eh Cg (by omega) (by omega) (by decide) (λ aum wm hs=>?_);refine ⟨eO qg hs.p3.At,?_⟩;refine ⟨aG bL (hs.p3.hb.cell rfl),?_⟩;obtain ⟨ar0,rfl⟩:=(hs).fU;obtain ⟨ar1,rfl⟩:=(hs.p1).fU;refine pop (wg _ _ _ _ _ _ _ _ _ _ _ _) (l5 hs (λ aun zq hs=>?_));have hs:=hs.p9.p9.p9.p9.p9.p9.p8.p8.p9.p9;exact ⟨_,rfl,eI.shut (t:=qc c) arZ hs⟩
     ·trivial
   ·rintro _ CH ⟨tb,rfl,hs⟩ oY;refine bI aff hs (H':=λ _=>eI K tb m.room t1) (Φ:=λ _ _=>True) (λ F2 eW eF=>?_) ?_
    ·exact (C122 K tb m.room (qc c) t1 N F2 _ eW (λ w' hc=>hK w' (eF w' hc).aF) (Jp hco) hg).mono λ _ _ r=>r.mono λ _ _ h=>⟨trivial,h.2⟩
    rintro _ IN _ hs;refine aE (aA jm ?_);have vv:=(hs.p4).lu;refine aB pI hs.p2.hb rfl (bV ([(⟨tb⟩:Ptr)]) hs qw rfl rfl (eK rfl) (λ ar2 JQ hs=>?_));have akW:=(hs).fF;refine cS hs.p4 qw akW (by rw [List.length_take] at vv; simp; omega) (by decide) (λ ag1 Lc hs=>have hs:=hs.p1.drop;aE (aA jm (aV hs.p3 pI (eK rfl) ((hs).fF.one) (λ M4 hs=>?_))));intro G9;refine aO (by omega) ?_;have hs:=(((((St.Ec (H:=ql K m.room) (p:=⟨tb⟩) (x:=t1) hs.p2.p4).p3).drop).p4).p4).p2;have hs:=hs.p4.p4;exact ⟨_,by omega,j+1,ag1,ps++[⟨tb⟩],rfl,rfl,by omega,by rw [← ie (k:=j) ht1]; exact hs⟩
  ·have hs:=hs.p2.p2.p3.p4.p4;rw [List.take_of_length_le (by have:=hb.1; omega)] at hs;exact ⟨rfl,(eJ.shut (m:=lK m ths) (a:={a with lk:=HZ,ll:=XV,ps:=ps}) ⟨hu.ln,hu.cl,hu.rc,hu.mem⟩ hs).mut⟩
def gH (m:gp) (q:eo):Option (List Int):=if q.kind=3∧q.t=0∧q.i=0∧m.fault=0 then jx m.mem q.cut else none
def wV (m:gp) (oH:List Int):gp:={m with mem:=zf m.mem oH,bW:=m.bW+1}
def B4 (N:Nat) (m:gp) (q:eo):Option (gp × cG × Int):=match gH m q with
 | some oH=>(rZ N (qc m.u.recover)).map λ t=>(lK (wV m oH) [t],⟨15,0,0,yC q.cut q.cut.length,0⟩,0)
 | none=>if (cQ m).any (jy q)=true then
   (if q.kind=2 then (m.l[q.t.toNat]?).map λ t=>(mw m t q,oD q.t (ep t.buf q.i),0) else (mN N m q.t).map λ r=>(r.1,r.2,0))
  else some (m,⟨0,0,0,0,0⟩,13)
section
variable {N:Nat} {m m2:gp} {q:eo} {ev:cG} {e:Int} {oH:List Int}
theorem pk (h:B4 N m q=some (m2,ev,e)) (hc:gH m q=some oH):∃ t,rZ N (qc m.u.recover)=some t∧m2=lK (wV m oH) [t]∧ev=⟨15,0,0,yC q.cut q.cut.length,0⟩∧e=0:=by
 unfold B4 at h; rw [hc] at h; dsimp only at h
 cases hg:rZ N (qc m.u.recover) with
 | none=>rw [hg] at h; cases h
 | some t=>rw [hg] at h; cases h; exact ⟨t,rfl,rfl,rfl,rfl⟩
theorem oE (h:B4 N m q=some (m2,ev,e)) (hc:gH m q=none) (ha:¬ (cQ m).any (jy q)=true):m2=m∧ev=⟨0,0,0,0,0⟩∧e=13:=by
 unfold B4 at h; rw [hc] at h; dsimp only at h; rw [if_neg ha] at h
 cases h; exact ⟨rfl,rfl,rfl⟩
theorem oF {t:fG} (h:B4 N m q=some (m2,ev,e)) (hc:gH m q=none) (ha:(cQ m).any (jy q)=true) (hk:q.kind=2) (ht:m.l[q.t.toNat]? = some t):m2=mw m t q∧ev=oD q.t (ep t.buf q.i)∧e=0:=by
 unfold B4 at h; rw [hc] at h; dsimp only at h; rw [if_pos ha,if_pos hk,ht] at h
 cases h; exact ⟨rfl,rfl,rfl⟩
theorem my (h:B4 N m q=some (m2,ev,e)) (hc:gH m q=none) (ha:(cQ m).any (jy q)=true) (hk:¬ q.kind=2):mN N m q.t=some (m2,ev)∧e=0:=by
 unfold B4 at h; rw [hc] at h; dsimp only at h; rw [if_pos ha,if_neg hk] at h
 cases hs:mN N m q.t with
 | none=>rw [hs] at h; cases h
 | some r=>rw [hs] at h; cases h; exact ⟨rfl,rfl⟩
theorem wW {k:Nat} {x:eo} (h:x∈kZ m k):∃ i t,i<k∧m.l[i]? = some t∧x∈tB m i t:=by
 unfold kZ at h
 rw [List.mem_flatMap] at h
 obtain ⟨i,hi,hx⟩:=h
 cases ht:m.l[i]? with
 | none=>rw [ht] at hx; cases hx
 | some t=>rw [ht] at hx; exact ⟨i,t,List.mem_range.1 hi,ht,hx⟩
theorem Ml {i:Nat} {t:fG} {x:eo} (h:x∈tB m i t):x.t=i:=by
 unfold tB at h
 rw [List.mem_append] at h
 rcases h with h | h
 ·split at h
  ·simp at h; rw [h]
  ·cases h
 ·rw [List.mem_map] at h; obtain ⟨_,_,rfl⟩:=h; rfl
theorem pn (h:(cQ m).any (jy q)=true):0≤q.t∧∃ t,m.l[q.t.toNat]? = some t:=by
 rw [List.any_eq_true] at h
 obtain ⟨x,hx,hs⟩:=h
 unfold cQ at hx
 split at hx
 ·cases hx
 ·obtain ⟨i,t,_,ht,Be⟩:=wW hx
  have h1:=Ml Be
  unfold jy at hs
  simp only [Bool.and_eq_true,decide_eq_true_eq] at hs
  have:q.t=(i:Int):=by omega
  rw [this]; exact ⟨by omega,t,ht⟩
theorem po (h:qE m):(cQ m).length≤1001000:=by
 unfold cQ; split
 ·simp
 ·exact Nat.le_trans (wS h _) (Nat.mul_le_mul_right 1001 h.tl)
end
def XW (m:Mem) (cut:List Int) (v:Value) (m2:Mem):Prop:=(jx m cut=none∧m2=m∧v = .int .i64 1)∨∃ oH,jx m cut=some oH∧m2=zf m oH∧v = .int .i64 0
theorem S4 {m:Mem} {cut:List Int} {v:Value} {p:Nat} {ov fv:Value} {F:Nat→Prop} {w w':World}
  (h:(jx m cut=none∧v = .int .i64 1∧qy F (fZ p ov fv m) w w')∨∃ oH,jx m cut=some oH∧v = .int .i64 0∧qy F (fZ p ov fv (zf m oH)) w w') :
  True∧qy F (ua λ m2=>fact (XW m cut v m2) (fZ p ov fv m2)) w w':=by
 refine ⟨trivial,?_⟩
 rcases h with ⟨h1,h2,F',h3,h4,h5⟩ | ⟨oH,h1,h2,F',h3,h4,h5⟩
 ·exact ⟨F',⟨m,.inl ⟨h1,rfl,h2⟩,h3⟩,h4,h5⟩
 ·exact ⟨F',⟨zf m oH,.inr ⟨oH,h1,rfl,h2⟩,h3⟩,h4,h5⟩
set_option maxHeartbeats 1000000 in
theorem C15 (u:im) (uv:dQ) (room:Int) (N:Nat) (ths:List fG) (w:World) (hu:bZ.dr w uv u) (hz:UZ u) (hn:nz u=true→Re N u ths):CR 15 [Flat.val uv,.int .i64 room] w (λ v w'=>(nz u=false∧v = .tuple #[.pointer none,.int .i64 8]∧Ext w w')∨(nz u=true∧(room<1∨16<room)∧v = .tuple #[.pointer none,.int .i64 1]∧Ext w w')∨(nz u=true∧1≤room∧room≤16∧∃ K p,v = .tuple #[.pointer (some ⟨p,0,none⟩),.int .i64 0]∧lY (sep (eJ K p (lK (lU u room) ths)) (eL K)) w w')):=by
 obtain ⟨iK,gM,fe,sI,fo,rfl,iL,jw,je,jU,kY⟩:=hu;obtain ⟨dO,rfl,ix⟩:=jU;have hs:=St.start w;refine ahy _ _ _ _ ?_;unfold S15;refine dJ hs (λ b_u2 w1 hs=>aD tO hs.At (aZ avo hs (C51 u _ _ ⟨iK,gM,fe,(⟨((u).recover).aK,((u).recover).counts,dO⟩:cN),fo,rfl,(iL.ext hs.aF),(jw.ext hs.aF),(je.ext hs.aF),⟨dO,rfl,(ix.ext hs.aF)⟩,(kY.ext hs.aF)⟩ hz) (λ w2 he hs=>cC (aX (λ gW=>?_) (λ gW=>?_)))))
 ·exact .inl ⟨by simpa using gW,rfl,hs.drop.aF⟩
 ·have Bd:=hn (by simpa using gW);refine eA anr (C52 room _) ?_;rintro v_x14 w3 akX
  rcases akX with ⟨Zg,rfl,he⟩ | ⟨hr1,GF,b52,rfl,cA⟩
  ·have hs:=hs.ext he;refine bE rfl (bE rfl (cR (gJ (by decide) ?_)));exact .inr (.inl ⟨by simpa using gW,Zg,rfl,hs.drop.aF⟩)
  ·have hs:=hs.made cA;refine bE rfl (bE rfl (cR (fS (by decide) (aD tO hs.p1.At (eA avp (C53 u _ _ ⟨iK,gM,fe,(⟨((u).recover).aK,((u).recover).counts,dO⟩:cN),fo,rfl,(iL.ext hs.aF),(jw.ext hs.aF),(je.ext hs.aF),⟨dO,rfl,(ix.ext hs.aF)⟩,(kY.ext hs.aF)⟩ hz) ?_)))));rintro _ w4 ⟨azd,rfl,cA⟩;have hs:=hs.made cA;refine pop (Ny _ _ _ _ _ _ _ _ _ _ _ _ _ _ _ _ _ _ _ _) (l5 hs (λ Ck w5 hs=>aA mE (aB eB hs.p3.hb rfl ?_)));have ar3:=DL.flat (iL);refine aA py (aB (v:=.int .i64 ((u).stays)) bL hs.p3.hb rfl (aA xl (aB eB hs.p3.hb rfl ?_)))
   have ar4:=DL.flat (jw);refine eA avq (C54 u.lines u.dH u.stays _ _ _ (ar3.ext hs.aF) (ar4.ext hs.aF) Bd.len Bd.l20 Bd.st Bd.ln) ?_;rintro v33 w6 ⟨q,ov,fv,rfl,cA⟩;have hs:=((hs.made cA).split).p1.split;refine bE rfl (bE rfl (aE (aA jM (aV hs.p3 sj (eK rfl) (rfl) (λ w7 hs=>aE (aA tP (aA se (aB F4 hs.hb rfl ?_))))))));obtain ⟨s1,s2,s3,s4,s5,hsh,q1,q2,q3,q4,q5⟩:=(hs.p4).eL;obtain ⟨g4,hs4,_⟩:=q4;subst hs4;subst hsh;have hs:=hs.p4.p2.p4.p4.p4;obtain ⟨K,OM,hs,aze,azf⟩:=XU (room:=room) (sh:=(⟨s1,u.stays,s2,u.locks,s3,⟨u.recover.aK,u.recover.counts,g4⟩,s5⟩:dQ)) hs
   refine bI ans hs (H':=λ _=>eJ K Ck (lK (lU u room) ths)) (Φ:=λ _ _=>True) (λ F2 eW eF=>?_) ?_
   ·exact (C55 K Ck (lU u room) N u.threads ths _ OM F2 _ eW (λ w' hc=>(eF w' hc).eL) ⟨hr1,GF⟩ Bd.lk (λ w' hc=>aze w' (eF w' hc).eL) azf Bd.co Bd.b hz.threads).mono λ _ _ r=>r.mono λ _ _ h=>⟨trivial,h.2⟩
   rintro _ w8 _ hs;have hs:=((hs.p2.drop.p2.drop).p1).p1;exact .inr (.inr ⟨by simpa using gW,hr1,GF,K,Ck,rfl,(St.join hs).fresh⟩)
set_option maxHeartbeats 2000000 in
theorem C17 (K:World→Prop) (p:Nat) (m:gp) (N:Nat) (q:eo) (gc:SV) (m2:gp) (ev:cG) (e:Int) (F:Nat→Prop) (w:World) (hF:(eJ K p m).p w F) (hK:∀ w',iF F w w'→K w') (lZ:qE m) (tH:MB m.mem 1000000) (hcb:0≤m.bW∧m.bW≤1000000) (azg:BZ m.u.recover) (J2:0≤m.u.locks∧m.u.locks≤1000) (AS:∀ w',iF F w w'→eP (λ _=>True) w' (Flat.val gc) q.cut) (hql:q.cut.length≤1000) (hd:B4 N m q=some (m2,ev,e)):CR 17 [(.pointer (some ⟨p,0,none⟩)),Flat.val (⟨q.kind,q.t,q.i,gc⟩:dE)] w (λ v w'=>v = .tuple #[Flat.val ev,.int .i64 e]∧qy F (eJ K p m2) w w'):=by
 have hs:=St.begin hF;obtain ⟨a,hu,hs⟩:=eJ.open hs;have wU:=hs.p4.lu;refine ahA _ _ _ _ ?_;unfold S17;refine dJ (x:=(⟨q.kind,q.t,q.i,gc⟩:dE)) hs (λ yb w1 hs=>aN hs lG (λ CJ w2 hs=>?_));refine ⟨_,?_,λ _ _ h=>h⟩;refine aA pz (have hs:=hs.drew;aB (v:=.int .i64 q.kind) bL hs.p1.hb rfl (aH (aC (λ gA=>?_) (λ gA=>?_))))
 ·refine aA iG (aB (v:=.int .i64 q.t) bL hs.p1.hb rfl (aH (aC (λ kP=>?_) (λ kP=>?_))))
  ·refine aA xo (aB (v:=.int .i64 q.i) bL hs.p1.hb rfl (aH (aC (λ gj=>?_) (λ gj=>?_))))
   ·refine aE (aA nX (aB bL hs.p2.hb rfl (aH (aC (λ fT=>?_) (λ fT=>?_)))))
    ·refine aE (aA jM (aB sj hs.p2.hb rfl (aA si (aB (v:=Flat.val (gc:SV)) eB hs.p1.hb rfl (bI avt hs.p3 (H':=λ v=>ua λ m2=>fact (XW m.mem q.cut v m2) (fZ a.q a.ov a.fv m2)) (Φ:=λ _ _=>True) (λ F2 eW eF=>?_) ?_)))))
     ·exact (C58 a.q a.ov a.fv m.mem F2 q.cut _ _ eW (λ w' hc=>hu.mem _ (hK w' (eF w' hc).aF)) lZ.mem tH (λ w' hc=>AS w' (eF w' hc).aF) hql).mono λ _ _ r=>r.mono λ _ _ h=>S4 h
     rintro v34 w3 _ AT;obtain ⟨m2c,AU⟩:=AT.eZ
     clear AT
     obtain ⟨hcf,Dh⟩:=AU.oL
     clear AU
     rcases hcf with ⟨him,rfl,rfl⟩ | ⟨oH,him,rfl,rfl⟩
     ·have hs:=Dh;have C6:gH m q=none:=by unfold gH; rw [if_pos ⟨gA,kP,gj,fT⟩]; exact him
      refine aH ?_;intro fD;refine fS (by decide) (have hs:=eJ.shut (m:=m) hu hs.p6.p6.p6.p3.p6;dF FZ hs (C16 K p m _ hs.has (hK _ hs.aF) (λ w2 e=>hK _ (hs.aF.then e)) lZ) (λ x58 pP cA hs=>?_));have W0:=hs.p3.At;have KR:oe PG _ (.func (.func 60) [].toArray [.pointer (some ⟨yb,0,none⟩)].toArray) (λ _:eo=>True) (jy q):=
 ⟨60,[],_,rfl,Ux,λ sx y w1 e1 Rf _=>C60 y q sx yb (⟨q.kind,q.t,q.i,gc⟩:dE) w1 Rf (W0.ext e1) ⟨gc,rfl,DL.fx (AS _ (hs.aF.then e1))⟩⟩
      refine aZ Uy hs (C61 _ _ _ (λ _=>True) _ _ (hs).dl KR (λ _ _=>trivial) (by have:=po lZ; omega)) (λ sZ he hs=>cC (aX (λ kF=>?_) (λ kF=>?_)))
      ·refine pop (D0) (aI (x:=(⟨0,0,0,0,0⟩:cG)) hs.p2 fg rfl rfl (λ vy hs=>aD fg hs.At ?_));have hs:=((((hs.drop)).drop).p1).drop;obtain ⟨rfl,rfl,rfl⟩:=oE hd C6 (by simpa using kF);exact ⟨rfl,hs.mut⟩
      ·have qS:(cQ m).any (jy q)=true:=by simpa using kF
       obtain ⟨h0,t,ht⟩:=pn qS;refine aA pz (aB (v:=.int .i64 q.kind) bL hs.p3.hb rfl (aH (aC (λ nj=>?_) (λ nj=>?_))))
       ·refine aD l6 hs.p3.At ?_;obtain ⟨rfl,rfl,rfl⟩:=oF hd C6 qS nj ht;have hs:=hs.p1;refine bI Uz hs (H':=λ _=>eJ K p (mw m t q)) (Φ:=λ v _=>v=Flat.val (oD q.t (ep t.buf q.i))) (λ F2 eW eF=>?_) ?_
        ·exact C62 K p m q (⟨q.kind,q.t,q.i,gc⟩:dE) t F2 _ eW (λ w' hc=>hK w' (eF w' hc).aF) lZ tH ⟨gc,rfl,DL.fx (AS _ hs.aF)⟩ h0 ht
        rintro _ vz rfl hs;refine aI (x:=(oD q.t (ep t.buf q.i))) hs.p2 fg rfl rfl (λ su hs=>aD fg hs.At ?_);have hs:=(((hs.drop.p1).drop).p1).drop;exact ⟨rfl,hs.mut⟩
       ·refine aA iG (aB (v:=.int .i64 q.t) bL hs.p3.hb rfl ?_);obtain ⟨sM,rfl⟩:=my hd C6 qS nj;have hs:=hs.p1;refine bI UA hs (H':=λ _=>eJ K p m2) (Φ:=λ v _=>v=Flat.val ev) (λ F2 eW eF=>?_) ?_
        ·exact C63 K p m N q.t t m2 ev F2 _ eW (λ w' hc=>hK w' (eF w' hc).aF) lZ tH h0 ht sM
        rintro _ wm rfl hs;refine aI (x:=ev) hs.p2 fg rfl rfl (λ zq hs=>aD fg hs.At ?_);have hs:=(((hs.drop.p1).drop).p1).drop;exact ⟨rfl,hs.mut⟩
     ·have hs:=Dh;have C6:gH m q=some oH:=by unfold gH; rw [if_pos ⟨gA,kP,gj,fT⟩]; exact him
      refine aH ?_;intro fD;refine gJ (by decide) (aE (aA DU (aB bL hs.p3.hb rfl (aO (by omega) (aE (aA DU (aV hs.p3 bL (eK rfl) (rfl) (λ w5 hs=>aE (aA tP (aA zP (uW (⟨m.u.recover.aK,m.u.recover.counts,a.rcl⟩:cN) qg hs.hb rfl (bV ([(⟨m.u.recover.aK,m.u.recover.counts,a.rcl⟩:cN)]) hs Bs rfl rfl (eK rfl) (λ Wa w6 hs=>?_)))))))))))));have hs:=eJ.shut (m:=(wV m oH)) ⟨hu.ln,hu.cl,hu.rc,hu.mem⟩ hs.p7.p7.p7.p5.p5;obtain ⟨t2,hg,rfl,rfl,rfl⟩:=pk hd C6;have hs:=hs.p1.p1;refine bI ans hs (H':=λ _=>eJ K p (lK (wV m oH) [t2])) (Φ:=λ _ _=>True) (λ F2 eW eF=>?_) ?_
      ·exact (C55 K p (wV m oH) N [m.u.recover] [t2] _ [(⟨m.u.recover.aK,m.u.recover.counts,a.rcl⟩:cN)] F2 _ eW (λ w' hc=>hK w' (eF w' hc).aF) lZ.rm J2 (λ w' hc=>(eF w' hc).fF) ⟨rfl,λ j cv c h1 h2=>by cases j with | zero=>(simp at h1 h2; subst h1 h2; exact ⟨a.rcl,rfl,hu.rc⟩) | succ j=>simp at h1⟩ (by simpa using azg) ⟨rfl,λ j c t h1 h2=>by cases j with | zero=>(simp at h1 h2; subst h1 h2; exact hg) | succ j=>simp at h1⟩ (by simp)).mono λ _ _ r=>r.mono λ _ _ h=>⟨trivial,h.2⟩
      rintro _ w7 _ hs;refine aA si (aB (v:=Flat.val (gc:SV)) eB hs.p3.hb rfl (aZ avu hs (C59 _ q.cut _ (AS _ hs.aF) (by omega)) (λ w8 he hs=>pop (tZ _ _) (aI (x:=(⟨15,0,0,(yC q.cut q.cut.length),0⟩:cG)) hs.p2 fg rfl rfl (λ w9 hs=>aD fg hs.At ?_)))));have hs:=(((hs.drop.p1).drop).p1).drop;exact ⟨rfl,hs.mut⟩
    ·have C6:gH m q=none:=by unfold gH; rw [if_neg (by exact λ h=>fT h.2.2.2)]
     intro fD;refine fJ (have hs:=eJ.shut (m:=m) hu hs.p6.p6.p6.p6.p6;dF FZ hs (C16 K p m _ hs.has (hK _ hs.aF) (λ w2 e=>hK _ (hs.aF.then e)) lZ) (λ x58 pP cA hs=>?_));have W0:=hs.p3.At;have KR:oe PG _ (.func (.func 60) [].toArray [.pointer (some ⟨yb,0,none⟩)].toArray) (λ _:eo=>True) (jy q):=
 ⟨60,[],_,rfl,Ux,λ sx y w1 e1 Rf _=>C60 y q sx yb (⟨q.kind,q.t,q.i,gc⟩:dE) w1 Rf (W0.ext e1) ⟨gc,rfl,DL.fx (AS _ (hs.aF.then e1))⟩⟩
     refine aZ Uy hs (C61 _ _ _ (λ _=>True) _ _ (hs).dl KR (λ _ _=>trivial) (by have:=po lZ; omega)) (λ sZ he hs=>cC (aX (λ kF=>?_) (λ kF=>?_)))
     ·refine pop (D0) (aI (x:=(⟨0,0,0,0,0⟩:cG)) hs.p2 fg rfl rfl (λ vy hs=>aD fg hs.At ?_));have hs:=((((hs.drop)).drop).p1).drop;obtain ⟨rfl,rfl,rfl⟩:=oE hd C6 (by simpa using kF);exact ⟨rfl,hs.mut⟩
     ·have qS:(cQ m).any (jy q)=true:=by simpa using kF
      obtain ⟨h0,t,ht⟩:=pn qS;refine aA pz (aB (v:=.int .i64 q.kind) bL hs.p3.hb rfl (aH (aC (λ nj=>?_) (λ nj=>?_))))
      ·refine aD l6 hs.p3.At ?_;obtain ⟨rfl,rfl,rfl⟩:=oF hd C6 qS nj ht;have hs:=hs.p1;refine bI Uz hs (H':=λ _=>eJ K p (mw m t q)) (Φ:=λ v _=>v=Flat.val (oD q.t (ep t.buf q.i))) (λ F2 eW eF=>?_) ?_
       ·exact C62 K p m q (⟨q.kind,q.t,q.i,gc⟩:dE) t F2 _ eW (λ w' hc=>hK w' (eF w' hc).aF) lZ tH ⟨gc,rfl,DL.fx (AS _ hs.aF)⟩ h0 ht
       rintro _ vz rfl hs;refine aI (x:=(oD q.t (ep t.buf q.i))) hs.p2 fg rfl rfl (λ su hs=>aD fg hs.At ?_);have hs:=(((hs.drop.p1).drop).p1).drop;exact ⟨rfl,hs.mut⟩
      ·refine aA iG (aB (v:=.int .i64 q.t) bL hs.p3.hb rfl ?_);obtain ⟨sM,rfl⟩:=my hd C6 qS nj;have hs:=hs.p1;refine bI UA hs (H':=λ _=>eJ K p m2) (Φ:=λ v _=>v=Flat.val ev) (λ F2 eW eF=>?_) ?_
       ·exact C63 K p m N q.t t m2 ev F2 _ eW (λ w' hc=>hK w' (eF w' hc).aF) lZ tH h0 ht sM
       rintro _ wm rfl hs;refine aI (x:=ev) hs.p2 fg rfl rfl (λ zq hs=>aD fg hs.At ?_);have hs:=(((hs.drop.p1).drop).p1).drop;exact ⟨rfl,hs.mut⟩
   ·have C6:gH m q=none:=by unfold gH; rw [if_neg (by exact λ h=>gj h.2.2.1)]
    intro fD;refine fJ (have hs:=eJ.shut (m:=m) hu hs.p6.p6.p6.p6.p6;dF FZ hs (C16 K p m _ hs.has (hK _ hs.aF) (λ w2 e=>hK _ (hs.aF.then e)) lZ) (λ x58 pP cA hs=>?_));have W0:=hs.p3.At;have KR:oe PG _ (.func (.func 60) [].toArray [.pointer (some ⟨yb,0,none⟩)].toArray) (λ _:eo=>True) (jy q):=
 ⟨60,[],_,rfl,Ux,λ sx y w1 e1 Rf _=>C60 y q sx yb (⟨q.kind,q.t,q.i,gc⟩:dE) w1 Rf (W0.ext e1) ⟨gc,rfl,DL.fx (AS _ (hs.aF.then e1))⟩⟩
    refine aZ Uy hs (C61 _ _ _ (λ _=>True) _ _ (hs).dl KR (λ _ _=>trivial) (by have:=po lZ; omega)) (λ sZ he hs=>cC (aX (λ kF=>?_) (λ kF=>?_)))
    ·refine pop (D0) (aI (x:=(⟨0,0,0,0,0⟩:cG)) hs.p2 fg rfl rfl (λ vy hs=>aD fg hs.At ?_));have hs:=((((hs.drop)).drop).p1).drop;obtain ⟨rfl,rfl,rfl⟩:=oE hd C6 (by simpa using kF);exact ⟨rfl,hs.mut⟩
    ·have qS:(cQ m).any (jy q)=true:=by simpa using kF
     obtain ⟨h0,t,ht⟩:=pn qS;refine aA pz (aB (v:=.int .i64 q.kind) bL hs.p3.hb rfl (aH (aC (λ nj=>?_) (λ nj=>?_))))
     ·refine aD l6 hs.p3.At ?_;obtain ⟨rfl,rfl,rfl⟩:=oF hd C6 qS nj ht;have hs:=hs.p1;refine bI Uz hs (H':=λ _=>eJ K p (mw m t q)) (Φ:=λ v _=>v=Flat.val (oD q.t (ep t.buf q.i))) (λ F2 eW eF=>?_) ?_
      ·exact C62 K p m q (⟨q.kind,q.t,q.i,gc⟩:dE) t F2 _ eW (λ w' hc=>hK w' (eF w' hc).aF) lZ tH ⟨gc,rfl,DL.fx (AS _ hs.aF)⟩ h0 ht
      rintro _ vz rfl hs;refine aI (x:=(oD q.t (ep t.buf q.i))) hs.p2 fg rfl rfl (λ su hs=>aD fg hs.At ?_);have hs:=(((hs.drop.p1).drop).p1).drop;exact ⟨rfl,hs.mut⟩
     ·refine aA iG (aB (v:=.int .i64 q.t) bL hs.p3.hb rfl ?_);obtain ⟨sM,rfl⟩:=my hd C6 qS nj;have hs:=hs.p1;refine bI UA hs (H':=λ _=>eJ K p m2) (Φ:=λ v _=>v=Flat.val ev) (λ F2 eW eF=>?_) ?_
      ·exact C63 K p m N q.t t m2 ev F2 _ eW (λ w' hc=>hK w' (eF w' hc).aF) lZ tH h0 ht sM
      rintro _ wm rfl hs;refine aI (x:=ev) hs.p2 fg rfl rfl (λ zq hs=>aD fg hs.At ?_);have hs:=(((hs.drop.p1).drop).p1).drop;exact ⟨rfl,hs.mut⟩
  ·have C6:gH m q=none:=by unfold gH; rw [if_neg (by exact λ h=>kP h.2.1)]
   intro fD;refine fJ (have hs:=eJ.shut (m:=m) hu hs.p6.p6.p6.p6.p6;dF FZ hs (C16 K p m _ hs.has (hK _ hs.aF) (λ w2 e=>hK _ (hs.aF.then e)) lZ) (λ x58 pP cA hs=>?_));have W0:=hs.p3.At;have KR:oe PG _ (.func (.func 60) [].toArray [.pointer (some ⟨yb,0,none⟩)].toArray) (λ _:eo=>True) (jy q):=
 ⟨60,[],_,rfl,Ux,λ sx y w1 e1 Rf _=>C60 y q sx yb (⟨q.kind,q.t,q.i,gc⟩:dE) w1 Rf (W0.ext e1) ⟨gc,rfl,DL.fx (AS _ (hs.aF.then e1))⟩⟩
   refine aZ Uy hs (C61 _ _ _ (λ _=>True) _ _ (hs).dl KR (λ _ _=>trivial) (by have:=po lZ; omega)) (λ sZ he hs=>cC (aX (λ kF=>?_) (λ kF=>?_)))
   ·refine pop (D0) (aI (x:=(⟨0,0,0,0,0⟩:cG)) hs.p2 fg rfl rfl (λ vy hs=>aD fg hs.At ?_));have hs:=((((hs.drop)).drop).p1).drop;obtain ⟨rfl,rfl,rfl⟩:=oE hd C6 (by simpa using kF);exact ⟨rfl,hs.mut⟩
   ·have qS:(cQ m).any (jy q)=true:=by simpa using kF
    obtain ⟨h0,t,ht⟩:=pn qS;refine aA pz (aB (v:=.int .i64 q.kind) bL hs.p3.hb rfl (aH (aC (λ nj=>?_) (λ nj=>?_))))
    ·refine aD l6 hs.p3.At ?_;obtain ⟨rfl,rfl,rfl⟩:=oF hd C6 qS nj ht;have hs:=hs.p1;refine bI Uz hs (H':=λ _=>eJ K p (mw m t q)) (Φ:=λ v _=>v=Flat.val (oD q.t (ep t.buf q.i))) (λ F2 eW eF=>?_) ?_
     ·exact C62 K p m q (⟨q.kind,q.t,q.i,gc⟩:dE) t F2 _ eW (λ w' hc=>hK w' (eF w' hc).aF) lZ tH ⟨gc,rfl,DL.fx (AS _ hs.aF)⟩ h0 ht
     rintro _ vz rfl hs;refine aI (x:=(oD q.t (ep t.buf q.i))) hs.p2 fg rfl rfl (λ su hs=>aD fg hs.At ?_);have hs:=(((hs.drop.p1).drop).p1).drop;exact ⟨rfl,hs.mut⟩
    ·refine aA iG (aB (v:=.int .i64 q.t) bL hs.p3.hb rfl ?_);obtain ⟨sM,rfl⟩:=my hd C6 qS nj;have hs:=hs.p1;refine bI UA hs (H':=λ _=>eJ K p m2) (Φ:=λ v _=>v=Flat.val ev) (λ F2 eW eF=>?_) ?_
     ·exact C63 K p m N q.t t m2 ev F2 _ eW (λ w' hc=>hK w' (eF w' hc).aF) lZ tH h0 ht sM
     rintro _ wm rfl hs;refine aI (x:=ev) hs.p2 fg rfl rfl (λ zq hs=>aD fg hs.At ?_);have hs:=(((hs.drop.p1).drop).p1).drop;exact ⟨rfl,hs.mut⟩
 ·have C6:gH m q=none:=by unfold gH; rw [if_neg (by exact λ h=>gA h.1)]
  intro fD;refine fJ (have hs:=eJ.shut (m:=m) hu hs.p6.p6.p6.p6.p6;dF FZ hs (C16 K p m _ hs.has (hK _ hs.aF) (λ w2 e=>hK _ (hs.aF.then e)) lZ) (λ x58 pP cA hs=>?_));have W0:=hs.p3.At;have KR:oe PG _ (.func (.func 60) [].toArray [.pointer (some ⟨yb,0,none⟩)].toArray) (λ _:eo=>True) (jy q):=
 ⟨60,[],_,rfl,Ux,λ sx y w1 e1 Rf _=>C60 y q sx yb (⟨q.kind,q.t,q.i,gc⟩:dE) w1 Rf (W0.ext e1) ⟨gc,rfl,DL.fx (AS _ (hs.aF.then e1))⟩⟩
  refine aZ Uy hs (C61 _ _ _ (λ _=>True) _ _ (hs).dl KR (λ _ _=>trivial) (by have:=po lZ; omega)) (λ sZ he hs=>cC (aX (λ kF=>?_) (λ kF=>?_)))
  ·refine pop (D0) (aI (x:=(⟨0,0,0,0,0⟩:cG)) hs.p2 fg rfl rfl (λ vy hs=>aD fg hs.At ?_));have hs:=((((hs.drop)).drop).p1).drop;obtain ⟨rfl,rfl,rfl⟩:=oE hd C6 (by simpa using kF);exact ⟨rfl,hs.mut⟩
  ·have qS:(cQ m).any (jy q)=true:=by simpa using kF
   obtain ⟨h0,t,ht⟩:=pn qS;refine aA pz (aB (v:=.int .i64 q.kind) bL hs.p3.hb rfl (aH (aC (λ nj=>?_) (λ nj=>?_))))
   ·refine aD l6 hs.p3.At ?_;obtain ⟨rfl,rfl,rfl⟩:=oF hd C6 qS nj ht;have hs:=hs.p1;refine bI Uz hs (H':=λ _=>eJ K p (mw m t q)) (Φ:=λ v _=>v=Flat.val (oD q.t (ep t.buf q.i))) (λ F2 eW eF=>?_) ?_
    ·exact C62 K p m q (⟨q.kind,q.t,q.i,gc⟩:dE) t F2 _ eW (λ w' hc=>hK w' (eF w' hc).aF) lZ tH ⟨gc,rfl,DL.fx (AS _ hs.aF)⟩ h0 ht
    rintro _ vz rfl hs;refine aI (x:=(oD q.t (ep t.buf q.i))) hs.p2 fg rfl rfl (λ su hs=>aD fg hs.At ?_);have hs:=(((hs.drop.p1).drop).p1).drop;exact ⟨rfl,hs.mut⟩
   ·refine aA iG (aB (v:=.int .i64 q.t) bL hs.p3.hb rfl ?_);obtain ⟨sM,rfl⟩:=my hd C6 qS nj;have hs:=hs.p1;refine bI UA hs (H':=λ _=>eJ K p m2) (Φ:=λ v _=>v=Flat.val ev) (λ F2 eW eF=>?_) ?_
    ·exact C63 K p m N q.t t m2 ev F2 _ eW (λ w' hc=>hK w' (eF w' hc).aF) lZ tH h0 ht sM
    rintro _ wm rfl hs;refine aI (x:=ev) hs.p2 fg rfl rfl (λ zq hs=>aD fg hs.At ?_);have hs:=(((hs.drop.p1).drop).p1).drop;exact ⟨rfl,hs.mut⟩
def Cy (t:fG):Bool:=(gP t).isNone && decide (t.buf.length=0)
def uE (m:gp):Bool:=decide (m.fault=0) && !(List.range m.l.length).any λ i=>match m.l[i]? with | some t=>!Cy t | none=>false
def zi (m:gp):Bool:=decide (m.fault=0) && (!uE m && decide (((cQ m).length:Int)=0))
def dG (m:gp):iI:=⟨m.bW,m.fault,m.mv,uE m,zi m⟩
def zj (m:gp) (l:List nw):Bool:=decide ((runM l (m.mem.l.take m.u.stays.toNat)).2=0) && decide ((runM l (m.mem.l.take m.u.stays.toNat)).1≠0)
def Di (m:gp):List Bool:=m.u.cD.map (zj m)
theorem tL.ext {w w':World} {b:Nat} {cs:List Value} (h:tL w b cs) (e:Ext w w'):tL w' b cs:=h.of_eq (e.cH b h.lt λ h=>h)
theorem OP {a:MA} {m:gp} (h1:rW a.lk=true) (h2:rW a.ll=true):∀ v∈j4 a m,rW v=true:=by
 intro v hv
 simp only [List.mem_cons,List.not_mem_nil,or_false] at hv
 rcases hv with rfl | rfl | rfl | rfl | rfl | rfl | rfl | rfl | rfl | rfl | rfl | rfl | rfl | rfl | rfl | rfl <;> first | rfl | exact h1 | exact h2
theorem OQ {bp:Nat} {c:fu} {gl rg cn:Value} {x f e g:Int} (h1:rW gl=true) (h2:rW rg=true) (h3:rW cn=true) :
  ∀ v∈[Value.pointer (some ⟨bp,0,none⟩),.int .i64 c.aK,.int .i64 c.counts,gl,.int .i64 x,rg,cn,.int .i64 f,.int .i64 e,.int .i64 g],rW v=true:=by
 intro v hv
 simp only [List.mem_cons,List.not_mem_nil,or_false] at hv
 rcases hv with rfl | rfl | rfl | rfl | rfl | rfl | rfl | rfl | rfl | rfl <;> first | rfl | exact h1 | exact h2 | exact h3
theorem Hw {n k:Nat} (h:k<n):(List.range n)[k]? = some k:=List.getElem?_range h
theorem C64 (K:World→Prop) (p:Nat) (room:Int) (t:fG) (w:World) (hh:Has (eI K p room t) w) (uM:∀ w',Ext w w'→K w') (oM:Hp t):CR 64 [(.pointer (some ⟨p,0,none⟩))] w (λ v w'=>v = .bool (Cy t)∧Ext w w'):=by
 obtain ⟨bp,gl,rg,cn,_,oC,hB,BJ,Ze⟩:=eI.rd hh;have XG:=oC.cell (o:=0) rfl;have hs:=St.start w;refine aie _ _ _ ?_;unfold S64;refine eA ZD (C65 K p room t _ (hh.ext hs.aF) (uM _ hs.aF) oM) ?_;rintro v_x7 w1 ar5
 rcases ar5 with ⟨vE,rfl,he⟩ | ⟨x,xv,vE,hxv,rfl,he⟩
 ·have hs:=hs.ext he;refine bE rfl (bE rfl (aN hs mF (λ LD w2 hs=>have hs:=hs.enc (cs':=Flat.enc (⟨0,0,0,⟨none,0,0⟩,⟨none,0,0⟩,0⟩:bU)) rfl;aI (x:=(⟨0,0,0,⟨none,0,0⟩,⟨none,0,0⟩,0⟩:bU)) hs lM rfl rfl (λ w3 hs=>?_))));refine ⟨_,?_,λ _ _ h=>h⟩;refine cC (nT (aZ air hs (C66 K p room t _ (hh.ext hs.aF) oM.bl) (λ w4 he hs=>?_)));intro fD;refine ⟨vb ?_,by first | exact hs.aF | exact hs.drop.aF⟩;unfold Cy;rw [vE]
  rfl
 ·have hs:=hs.ext he;obtain ⟨ge,gf,rfl,_,_⟩:=hxv _ (uM _ hs.aF);refine bE rfl (bE rfl (aN hs mF (λ LD w2 hs=>have hs:=hs.enc (cs':=Flat.enc (⟨0,0,0,⟨none,0,0⟩,⟨none,0,0⟩,0⟩:bU)) rfl;aI (x:=(⟨x.kind,x.a,x.b,ge,gf,x.to⟩:bU)) hs lM rfl rfl (λ w3 hs=>?_))));refine ⟨_,?_,λ _ _ h=>h⟩;refine cC (fJ ?_);intro fD;refine ⟨vb ?_,by first | exact hs.aF | exact hs.drop.aF⟩;unfold Cy;rw [vE]
  rfl
theorem C68 (K:World→Prop) (p:Nat) (room:Int) (t:fG) (b:Nat) (w:World) (hh:Has (eI K p room t) w) (uM:∀ w',Ext w w'→K w') (oM:Hp t) (hc:Cell w b 0 (OL 64)):CR 68 [(.pointer (some ⟨p,0,none⟩)),(.pointer (some ⟨b,0,none⟩))] w (λ v w'=>v = .bool (!Cy t)∧Ext w w'):=by
 have hs:=St.start w;refine aij _ _ _ _ ?_;unfold S68;refine cE afJ (hc.ext hs.aF) (gh (first:=[]) (cap:=[]) avv (C64 K p room t _ (hh.ext hs.aF) (λ w2 e=>uM _ (Ext.trans hs.aF e)) oM) ?_);rintro _ w1 ⟨rfl,he⟩;have hs:=hs.ext he;refine cC ?_;exact ⟨rfl,hs.aF⟩
theorem C136 (sv:Value) (ps:List Ptr) (g0:Nat) (first cap:List Value) (g:Nat→Bool) (w:World) (hL:eP (λ _=>True) w sv ps) (vv:Plain PG g0) (l4:∀ (i:Nat) (s:Ptr) (w1:World),ps[i]? = some s→Ext w w1→Calls PG g0 (first++[Flat.val s]++cap).toArray w1 (qf λ v w2=>v = .bool (g i)∧Ext w1 w2)) (hn:ps.length≤1073741824):CR 136 [sv,(.func (.func g0) first.toArray cap.toArray)] w (λ v w'=>v = .int .i64 (uZ g (List.range ps.length))∧Ext w w'):=by
 have hs:=St.start w;refine aad _ _ _ _ ?_;unfold S136;refine aJ qw (hL.ext hs.aF) ?_;refine ⟨λ m x w1=>∃ k:Nat,x = .int .i64 (k:Int)∧m=ps.length - k∧k≤ps.length∧(∀ y∈(List.range ps.length).take k,g y=false)∧St w bD [] w1,⟨_,0,rfl,rfl,Nat.zero_le _,by simp,hs⟩,?_⟩;rintro m _ w1 ⟨k,rfl,rfl,hk,fV,hs⟩ fD;refine aR (aC (λ gA=>?_) (λ gA=>?_))
 ·obtain ⟨js,dI⟩:=gx (ps) (i:=((k:Int)).toNat) (by omega);refine aQ qw hL (by omega) dI (λ _ iU=>aD zT (iU.ext hs.aF) (gh vv (l4 k js w1 dI hs.aF) ?_));rintro _ w2 ⟨rfl,he⟩;have hs:=hs.ext he;refine aX (λ eE=>?_) (λ eE=>?_)
  ·exact ⟨congrArg (Value.int .i64) (pB fV (Hw (by omega)) eE).symm,hs.aF⟩
  ·refine aO (by omega) ?_;exact ⟨_,by omega,k+1,rfl,rfl,by omega,eH fV (Hw (by omega)) eE,hs⟩
 ·exact ⟨congrArg (Value.int .i64) (kC (by rw [List.take_of_length_le (by rw [List.length_range]; omega)] at fV; exact fV)).symm,hs.aF⟩
theorem C67 (sv:Value) (ps:List Ptr) (g0:Nat) (first cap:List Value) (g:Nat→Bool) (w:World) (hL:eP (λ _=>True) w sv ps) (vv:Plain PG g0) (l4:∀ (i:Nat) (s:Ptr) (w1:World),ps[i]? = some s→Ext w w1→Calls PG g0 (first++[Flat.val s]++cap).toArray w1 (qf λ v w2=>v = .bool (g i)∧Ext w1 w2)) (hn:ps.length≤1073741824):CR 67 [sv,(.func (.func g0) first.toArray cap.toArray)] w (λ v w'=>v = .bool ((List.range ps.length).any g)∧Ext w w'):=by
 have hs:=St.start w;refine aii _ _ _ _ ?_;unfold S67;refine aZ anM hs (C136 _ ps g0 first cap g _ (hL.ext hs.aF) vv (λ i s2 w2 h e=>l4 i s2 w2 h (Ext.trans hs.aF e)) (by omega)) (λ w1 he hs=>dK ?_);exact ⟨vb (og _ _),hs.aF⟩
theorem C18 (K:World→Prop) (p:Nat) (m:gp) (w:World) (hm:Has (eJ K p m) w) (hw:K w) (uM:∀ w',Ext w w'→K w') (lZ:qE m):CR 18 [(.pointer (some ⟨p,0,none⟩))] w (λ v w'=>v=Flat.val (dG m)∧Ext w w'):=by
 obtain ⟨a,hr⟩:=eJ.rd hm hw;have Zf:=hr.b.cell (o:=8) rfl;have cm0:=hr.b.cell (o:=0) rfl;have XH:=hr.b.cell (o:=1) rfl;have cm3:=hr.b.cell (o:=3) rfl;have cm9:=hr.b.cell (o:=9) rfl;have B0:=hr.b.cell (o:=10) rfl;have CM:=hr.b.cell (o:=11) rfl;have yi:=hr.b.cell (o:=12) rfl;have Fq:=hr.b.cell (o:=13) rfl;have zh:=hr.b.cell (o:=14) rfl;have Fs:=hr.b.cell (o:=15) rfl;have hs:=St.start w;refine ahB _ _ _ ?_;unfold S18;refine aN hs Iy (λ mf w1 hs=>yJ hs ab2 rfl (λ Jq w2 hs=>aV hs afJ (eK rfl) (rfl) (λ w3 hs=>aE (aA DU (have hs:=hs.drew;cE bL (Fq.ext hs.aF) (aE (aA nX (cE bL (zh.ext hs.aF) (aE (aA DV (cE bL (Fs.ext hs.aF) (pop (KN _ _ _) ?_))))))))))))
 refine aN hs Iy (λ ar6 w4 hs=>?_);refine ⟨aG bL (Fq.ext hs.aF),?_⟩;refine ⟨aG bL (zh.ext hs.aF),?_⟩;refine ⟨aG bL (Fs.ext hs.aF),?_⟩;refine aI (x:=(⟨m.bW,m.fault,m.mv,false,false⟩:iI)) hs KC rfl rfl (λ w5 hs=>?_);refine ⟨λ w'=>St w bD [cH ar6 (Flat.enc (⟨m.bW,m.fault,m.mv,uE m,false⟩:iI)),cH Jq [OL 64],cH mf (Flat.enc (⟨0,0,0,false,false⟩:iI))] w',?_,?_⟩
 ·refine aE (aA nX (cE bL (zh.ext hs.aF) (aH (aC (λ iT=>?_) (λ iT=>?_)))))
  ·refine aE (aA jm (cE pI (yi.ext hs.aF) ?_));refine aZ avw hs (C67 _ a.ps 68 [] [.pointer (some ⟨Jq,0,none⟩)] (λ i=>match m.l[i]? with | some t=>!Cy t | none=>false) _ (hr.ll.ext hs.aF) avx (λ i s2 w2 h e=>by
  obtain ⟨t,ht⟩:∃ t,m.l[i]? = some t:=⟨_,List.getElem?_eq_getElem (by have:=(List.getElem?_eq_some_iff.1 h).1; have:=hr.len; omega)⟩;rw [ht]
  exact C68 K s2.b m.room t Jq w2 ((hr.th i s2 t h ht).ext (Ext.trans hs.aF e)) (λ w3 e3=>uM _ (Ext.trans (Ext.trans hs.aF e) e3)) (lZ.th t (List.mem_of_getElem? ht)) ((hs.p1.hb.cell rfl).ext e)) (by have:=hr.len; have:=lZ.tl; omega)) (λ w6 he hs=>?_)
   refine cC (aA Iv (aV hs TY (eK rfl) (rfl) (λ w7 hs=>?_)));have hs:=hs.enc (cs':=Flat.enc ({ (⟨m.bW,m.fault,m.mv,false,false⟩:iI) with done:=(!((List.range a.ps.length).any (λ i=>match m.l[i]? with | some t=>!Cy t | none=>false)))}:iI)) rfl;have hs:=hs.p2.p2.p2;have hdm:uE m = !((List.range a.ps.length).any (λ i=>match m.l[i]? with | some t=>!Cy t | none=>false)):=by unfold uE; rw [decide_eq_true iT,hr.len]; rfl
   rw [hdm];exact hs
  ·refine aA Iv (aV hs TY (eK rfl) (rfl) (λ w8 hs=>?_));have hs:=hs.enc (cs':=Flat.enc ({ (⟨m.bW,m.fault,m.mv,false,false⟩:iI) with done:=false}:iI)) rfl;have hs:=hs.p2.p2.p2;have hdm:uE m=false:=by unfold uE; rw [decide_eq_false iT]; rfl
   rw [hdm];exact hs
 ·intro w9 hs fD;refine ⟨λ w'=>St w bD [cH ar6 (Flat.enc (dG m)),cH mf (Flat.enc (⟨0,0,0,false,false⟩:iI))] w',?_,?_⟩
  ·refine aE (aA nX (cE bL (zh.ext hs.aF) (aH (aC (λ ue=>?_) (λ ue=>?_)))))
   ·refine aA Iv (aB (v:=.bool (((⟨m.bW,m.fault,m.mv,uE m,false⟩:iI)).done)) TY hs.hb rfl (cC (aX (λ jD=>?_) (λ jD=>?_))))
    ·refine dF FZ hs (C16 K p m _ (hm.ext hs.aF) (uM _ hs.aF) (λ w2 e=>uM _ (Ext.trans hs.aF e)) lZ) (λ x45 pP cA hs=>?_);obtain ⟨azk,akY,akZ,_⟩:=(hs).dl;refine aJ nV akY ?_;rw [akZ];refine aH (aA Iw (aV hs.p1 TY (eK rfl) (rfl) (λ sZ hs=>?_)));have hs:=hs.enc (cs':=Flat.enc ({ (⟨m.bW,m.fault,m.mv,uE m,false⟩:iI) with stuck:=(decide (((cQ m).length:Int)=0))}:iI)) rfl;have hs:=((hs.p1.drop.p1.drop).p1).p1;have hsm:zi m=(decide (((cQ m).length:Int)=0)):=by unfold zi; rw [decide_eq_true ue,show uE m=false from by simpa using jD]; rfl
     unfold dG;rw [hsm];exact hs
    ·refine aA Iw (aV hs TY (eK rfl) (rfl) (λ vy hs=>?_));have hs:=hs.enc (cs':=Flat.enc ({ (⟨m.bW,m.fault,m.mv,uE m,false⟩:iI) with stuck:=false}:iI)) rfl;have hs:=(hs.p1.drop.p1).p1;have hsm:zi m=false:=by unfold zi; rw [show uE m=true from by simpa using jD]; simp
     unfold dG;rw [hsm];exact hs
   ·refine aA Iw (aV hs TY (eK rfl) (rfl) (λ vz hs=>?_));have hs:=hs.enc (cs':=Flat.enc ({ (⟨m.bW,m.fault,m.mv,uE m,false⟩:iI) with stuck:=false}:iI)) rfl;have hs:=(hs.p1.drop.p1).p1;have hsm:zi m=false:=by unfold zi; rw [decide_eq_false ue]; rfl
    unfold dG;rw [hsm];exact hs
  ·intro su hs jH;refine aD KC hs.At (aI (x:=(dG m)) hs.p1 KC rfl rfl (λ wm hs=>aD KC hs.At ?_));have hs:=((hs.drop)).drop;exact ⟨rfl,hs.aF⟩
theorem C49 (K:World→Prop) (p:Nat) (m:gp) (w:World) (hm:Has (eJ K p m) w) (hw:K w) (uM:∀ w',Ext w w'→K w') (lZ:qE m) (QO:m.u.cD.length≤1000) (hcz:∀ l∈m.u.cD,l.length≤1000) (gr:0≤m.u.stays∧m.u.stays≤m.mem.l.length):CR 49 [(.pointer (some ⟨p,0,none⟩))] w (λ v w'=>lY (bK v (Di m)) w w'):=by
 obtain ⟨a,hr⟩:=eJ.rd hm hw;have Zf:=hr.b.cell (o:=8) rfl;have cm0:=hr.b.cell (o:=0) rfl;have XH:=hr.b.cell (o:=1) rfl;have cm3:=hr.b.cell (o:=3) rfl;have cm9:=hr.b.cell (o:=9) rfl;have B0:=hr.b.cell (o:=10) rfl;have CM:=hr.b.cell (o:=11) rfl;have yi:=hr.b.cell (o:=12) rfl;have Fq:=hr.b.cell (o:=13) rfl;have zh:=hr.b.cell (o:=14) rfl;have Fs:=hr.b.cell (o:=15) rfl;have azl:=hr.uk.cl _ hw;have hs:=St.start w;refine ahZ _ _ _ ?_;unfold S49;refine aE (aA tP (aA xm (cE Sh (Zf.ext hs.aF) ?_)));obtain ⟨ar7,ag2,ag3⟩:=(azl).open;have hn130:=ag3.1;refine aJ F5 (ag2.ext hs.aF) ?_
 have hs:=hs.fX (α:=Bool);refine ⟨λ mm o x w1=>∃ k:Nat,x = .int .i64 (k:Int)∧mm=m.u.cD.length - k∧k≤m.u.cD.length∧St w bD [bK o ((m.u.cD.take k).map (zj m))] w1,⟨_,0,rfl,rfl,Nat.zero_le _,hs⟩,?_⟩;rintro mm ga _ w1 ⟨k,rfl,rfl,hk,hs⟩ fD;refine aR (aC (λ jt=>?_) (λ jt=>?_))
 ·refine ⟨λ o w'=>St w bD [bK o ((m.u.cD.take (k+1)).map (zj m))] w',?_,?_⟩
  ·obtain ⟨Hb,kU⟩:=gx ar7 (i:=((k:Int)).toNat) (by omega);obtain ⟨mJ,kV⟩:=gx (m.u.cD) (i:=((k:Int)).toNat) (by omega);have VU:DL w (Flat.val Hb) mJ:=ag3.2 _ _ _ kU kV;refine aQ F5 ag2 (by omega) kU (λ _ ud=>aD xW (ud.ext hs.aF) ?_);have ar8:=DL.flat (VU);refine aE (aA tP (aA py (have hs:=hs.drew;cE bL (XH.ext hs.aF) (dF ank hs (C22 K p m _ (hm.ext hs.aF) (uM _ hs.aF) (λ w2 e=>uM _ (Ext.trans hs.aF e)) lZ) (λ VV w2 cA hs=>?_)))));refine ⟨aG bL (XH.ext hs.aF),?_⟩;refine mc eh (hs).fF (by omega) (by omega) (λ QC BH=>aZ afc hs (C110 _ _ mJ (m.mem.l.take (m.u.stays).toNat) _ (ar8.ext hs.aF) (BH _ (hs).fF) (by have:=hcz _ (List.mem_of_getElem? kV); omega)) (λ w3 he hs=>bE rfl (bE rfl (aH (aC (λ nE=>?_) (λ nE=>?_))))))
   ·refine cR (bV ([decide ((runM mJ (m.mem.l.take m.u.stays.toNat)).1≠0)]) hs yp rfl rfl (eK rfl) (λ agc w4 hs=>?_));have Fe:=(hs).fF;refine cS hs.p2 yp Fe (by simp; omega) (by decide) (λ agp w5 hs=>?_);have hs:=hs.p1.drop.p1.drop;rw [← iW (k:=k) kV];have SM:zj m mJ=decide ((runM mJ (m.mem.l.take m.u.stays.toNat)).1≠0):=by unfold zj; rw [decide_eq_true nE]; rfl
    rw [SM];exact hs
   ·refine bV ([false]) hs yp rfl rfl (eK rfl) (λ aup w6 hs=>?_);have XX:=(hs).fF;refine cS hs.p2 yp XX (by simp; omega) (by decide) (λ auq w7 hs=>?_);have hs:=hs.p1.drop.p1.drop;rw [← iW (k:=k) kV];have SM:zj m mJ=false:=by unfold zj; rw [decide_eq_false nE]; rfl
    rw [SM];exact hs
  ·intro nq w8 hs jH;refine aO (by omega) ?_;exact ⟨_,by omega,k+1,rfl,rfl,by omega,hs⟩
 ·rw [List.take_of_length_le (by omega)] at hs;exact hs.fresh
set_option maxHeartbeats 1000000 in
theorem C19 (K:World→Prop) (p:Nat) (m:gp) (w:World) (hm:Has (eJ K p m) w) (hw:K w) (uM:∀ w',Ext w w'→K w') (lZ:qE m) (tH:MB m.mem 1000000) (ak0:m.u.locks≤1000):CR 19 [(.pointer (some ⟨p,0,none⟩))] w (λ v w'=>∃ b,v = .pointer (some ⟨b,0,none⟩)∧lY (eJ K b m) w w'):=by
 obtain ⟨a,hr⟩:=eJ.rd hm hw;have Zf:=hr.b.cell (o:=8) rfl;have cm0:=hr.b.cell (o:=0) rfl;have XH:=hr.b.cell (o:=1) rfl;have cm3:=hr.b.cell (o:=3) rfl;have cm9:=hr.b.cell (o:=9) rfl;have B0:=hr.b.cell (o:=10) rfl;have CM:=hr.b.cell (o:=11) rfl;have yi:=hr.b.cell (o:=12) rfl;have Fq:=hr.b.cell (o:=13) rfl;have zh:=hr.b.cell (o:=14) rfl;have Fs:=hr.b.cell (o:=15) rfl;have hrl0:=hr.len;have htl0:=lZ.tl;obtain ⟨ovs,hov⟩:=((hr.uk.mem _ hw).1).fU;obtain ⟨fvs,hfv⟩:=((hr.uk.mem _ hw).2).fU;have zL:=hr.c0;have CK:=hr.c1;rw [hov] at zL;rw [hfv] at CK;have hs:=St.start w;refine ahC _ _ _ ?_;unfold S19;refine aE (qX afI hr.b rfl (aN hs ab1 (λ ar9 w1 hs=>pF (vs:=j4 a m) hs afI rfl (by simp) (OP hr.lk.one hr.ll.one) (λ w2 hs=>have hs:=hs.enc (cs':=j4 a m) rfl;aE (aA jM (have hs:=hs.drew;cE sj (B0.ext hs.aF) (aE (aA nW (cE eB (CM.ext hs.aF) (eA avy (C69 a.q m.mem ovs fvs _ (zL.ext hs.aF) (CK.ext hs.aF) (hr.mem.ext hs.aF) lZ.mem tH) ?_))))))))))
 rintro _ w3 ⟨b2,rfl,cA⟩;have hs:=hs.made cA;refine ⟨aG eB (CM.ext hs.aF),?_⟩;refine dF zH hs (C70 _ _ _ (hr.lk.ext hs.aF) (by have akU:=lZ.lk; have:=ak0; omega)) (λ x19 w4 cA hs=>aA jM (aV hs.p2 sj (eK rfl) (rfl) (λ w5 hs=>aA nW (aV hs eB (eK rfl) ((hs.p1).fF.one) (λ w6 hs=>aA jm (aV hs pI (eK rfl) (rfl) (λ w7 hs=>aE (aA jm (cE pI (yi.ext hs.aF) (aJ qw (hr.ll.ext hs.aF) ?_))))))))));obtain ⟨I2,rfl⟩:=(hs.p1).fU;obtain ⟨lk2,asa⟩:∃ l,l=I2:=⟨_,rfl⟩;subst asa;have hs:=((((((hs.KZ (H:=ql K m.room)).fX (α:=Ptr)).p4).p4).p3).p3).p4
 refine ⟨λ mm x w'=>∃ (j:Nat) (XV:Value) (ps2:List Ptr),x = .int .i64 (j:Int)∧mm=a.ps.length - j∧j≤a.ps.length∧St w bD [cH ar9 (j4 {a with q:=b2,lk:=Flat.val lk2,ll:=XV} m),bK XV ps2,iH (ql K m.room) ps2 (m.l.take j),bK (Flat.val lk2) m.locks,fZ b2 (Flat.val ovs) (Flat.val fvs) m.mem] w',⟨_,0,.slice none 0 0,[],rfl,rfl,Nat.zero_le _,hs⟩,?_⟩;rintro mm _ w8 ⟨j,XV,ps2,rfl,rfl,hj1,hs⟩ fD;refine aR (aC (λ VT=>?_) (λ VT=>?_))
 ·obtain ⟨El,lH⟩:=gx (a.ps) (i:=((j:Int)).toNat) (by omega);refine aQ qw hr.ll (by omega) lH (λ _ oo=>aD zT (oo.ext hs.aF) ?_);obtain ⟨t,ht⟩:∃ t,m.l[j]? = some t:=⟨_,List.getElem?_eq_getElem (by have:=hr.len; omega)⟩;have Bf:=List.mem_of_getElem? ht;have oM:=lZ.th t Bf;have yR:=oM.bl;have arP:=oM.rg;have hcn1:=oM.cn;have Zg:=oM.code.rb;have hcb:=oM.code.cb;obtain ⟨bp,gl,rg,cn,qQ,oC,hB,BJ,Ze⟩:=eI.rd (hr.th j _ _ lH ht);obtain ⟨ts0,hts⟩:=id qQ;have XG:=oC.cell (o:=0) rfl;have ct5:=oC.cell (o:=5) rfl;have ct6:=oC.cell (o:=6) rfl;refine aE (qX afK (tL.ext oC hs.aF) rfl (aN hs ab3 (λ ak1 w9 hs=>pF (vs:=[.pointer (some ⟨bp,0,none⟩),.int .i64 t.code.aK,.int .i64 t.code.counts,gl,.int .i64 t.at_,rg,cn,.int .i64 t.fault,.int .i64 t.e,.int .i64 t.f]) hs afK rfl (by simp) (OQ ((hts _ hw).1).one BJ.one Ze.one) (λ pP hs=>have hs:=hs.enc (cs':=[.pointer (some ⟨bp,0,none⟩),.int .i64 t.code.aK,.int .i64 t.code.counts,gl,.int .i64 t.at_,rg,cn,.int .i64 t.fault,.int .i64 t.e,.int .i64 t.f]) rfl;aE (aA mZ (have hs:=hs.drew;cE qY (XG.ext hs.aF) (aE (aA pJ (cE eB (ct5.ext hs.aF) (aE (aA v8 (cE eB (ct6.ext hs.aF) ?_))))))))))))
  refine eA avz (C71 bp m.room t.buf _ (hB.ext hs.aF) (by omega)) ?_;rintro _ sZ ⟨bq,rfl,cA⟩;have hs:=hs.made cA;refine ⟨aG eB (ct5.ext hs.aF),?_⟩;refine ⟨aG eB (ct6.ext hs.aF),?_⟩;refine dF zH hs (C70 _ _ _ (BJ.ext hs.aF) (by have akU:=lZ.lk; have:=ak0; omega)) (λ x44 vy cA hs=>?_);refine ⟨aG eB (ct6.ext hs.aF),?_⟩;refine dF zH hs (C70 _ _ _ (Ze.ext hs.aF) (by have akU:=lZ.lk; have:=ak0; omega)) (λ x49 vz cA hs=>aA mZ (aV hs.p3 qY (eK rfl) (rfl) (λ su hs=>aA pJ (aV hs eB (eK rfl) ((hs.p2).fF.one) (λ wm hs=>aA v8 (aV hs eB (eK rfl) ((hs.p1).fF.one) (λ zq hs=>aA jm ?_)))))))
  have vv:=(hs.p6).lu;refine aB pI hs.p4.hb rfl (bV ([(⟨ak1⟩:Ptr)]) hs qw rfl rfl (eK rfl) (λ ars CH hs=>?_));have ak2:=(hs).fF;refine cS hs.p6 qw ak2 (by rw [List.length_take] at vv; have:=lZ.tl; simp; omega) (by decide) (λ asc IN hs=>have hs:=hs.p1.drop;aA jm (aV hs.p5 pI (eK rfl) ((hs).fF.one) (λ JQ hs=>aO (by omega) ?_)));have hs:=eI.shut (room:=m.room) (t:=t) qQ hs.p3.p4.p5.p5;have vv:=(hs.p3).lu;have hs:=(((((St.Ec (H:=ql K m.room) (p:=⟨ak1⟩) (x:=t) hs.p3).p4).p4).p2).p4).p4;exact ⟨_,by omega,j+1,asc,ps2++[⟨ak1⟩],rfl,rfl,by omega,by rw [← ie (k:=j) ht]; exact hs⟩
 ·have hs:=hs.p2.p2.p3.p4.p4;rw [List.take_of_length_le (by have:=hr.len; omega)] at hs;rw [← hov,← hfv] at hs;exact ⟨ar9,rfl,(eJ.shut (m:=m) (a:={a with q:=b2,lk:=Flat.val lk2,ll:=XV,ps:=ps2}) ⟨hr.uk.ln,hr.uk.cl,hr.uk.rc,hr.uk.mem⟩ hs).fresh⟩
def B5 (s:ByteArray) (a:Int) (t:ByteArray):Bool:=decide (a+t.size≤s.size) && decide (s.extract a.toNat (a+t.size).toNat=t)
def whF (p:UInt8→Bool) (s:ByteArray):Nat→Nat→Nat
 | 0,a=>a
 | n+1,a=>match (lr s)[a]? with
  | some c=>if p c=true then whF p s n (a+1) else a
  | none=>a
def vR (p:UInt8→Bool) (s:ByteArray) (a:Nat):Nat:=whF p s (s.size - a) a
section
variable {p:UInt8→Bool} {s:ByteArray} {k:Nat} {c:UInt8}
theorem Jr (h:s.size≤k):vR p s k=k:=by unfold vR; rw [show s.size - k=0 from by omega]; rfl
theorem qm (h:(lr s)[k]? = some c):k<s.size:=by have:=(List.getElem?_eq_some_iff.1 h).1; rw [ei] at this; exact this
theorem Ft (h:(lr s)[k]? = some c) (hp:p c=true):vR p s k=vR p s (k+1):=by
 have hk:=qm h
 unfold vR
 rw [show s.size - k=(s.size - (k+1))+1 from by omega,whF,h]
 dsimp only
 rw [if_pos hp]
theorem Fu (h:(lr s)[k]? = some c) (hp:p c=false):vR p s k=k:=by
 have hk:=qm h
 unfold vR
 rw [show s.size - k=(s.size - (k+1))+1 from by omega,whF,h]
 dsimp only
 rw [hp]; rfl
end
def tD (c:UInt8):Bool:=decide (c.toNat=32∨c.toNat=9∨c.toNat=10∨c.toNat=13)
def yD (c:UInt8):Bool:=decide (c.toNat≠10)
def rM (c:UInt8):Bool:=jB c.toNat || nx c.toNat
def vO (c:UInt8):Bool:=nx c.toNat
def kQ (s:ByteArray):Nat→Nat→Option Nat
 | 0,_=>none
 | n+1,a=>match (lr s)[a]? with
  | none=>some a
  | some c=>if tD c=true then kQ s n (a+1) else if B5 s a ⟨#[47,47]⟩=true then kQ s n (vR yD s a) else some a
theorem OR {s:ByteArray} {n a r:Nat} (h:kQ s n a=some r):∃ k,n=k+1:=by
 cases n with
 | zero=>cases h
 | succ k=>exact ⟨k,rfl⟩
section
variable {s:ByteArray} {n a r:Nat} {c:UInt8}
theorem S5 (h:kQ s (n+1) a=some r) (ha:s.size≤a):r=a:=by
 unfold kQ at h; rw [List.getElem?_eq_none (by rw [ei]; exact ha)] at h; exact (Option.some.inj h).symm
theorem Cz (h:kQ s (n+1) a=some r) (hc:(lr s)[a]? = some c) (hb:tD c=true):kQ s n (a+1)=some r:=by
 unfold kQ at h; rw [hc] at h; dsimp only at h; rw [if_pos hb] at h; exact h
theorem Hx (h:kQ s (n+1) a=some r) (hc:(lr s)[a]? = some c) (hb:tD c=false) (hr:B5 s a ⟨#[47,47]⟩=true):kQ s n (vR yD s a)=some r:=by
 unfold kQ at h; rw [hc] at h; dsimp only at h; rw [if_neg (by rw [hb]; simp),if_pos hr] at h; exact h
theorem Mm (h:kQ s (n+1) a=some r) (hc:(lr s)[a]? = some c) (hb:tD c=false) (hr:B5 s a ⟨#[47,47]⟩=false):r=a:=by
 unfold kQ at h; rw [hc] at h; dsimp only at h; rw [if_neg (by rw [hb]; simp),if_neg (by rw [hr]; simp)] at h; exact (Option.some.inj h).symm
theorem XY:∀ (n a:Nat) (p:UInt8→Bool),a≤whF p s n a∧whF p s n a≤max a s.size
 | 0,a,p=>⟨Nat.le_refl _,by unfold whF; omega⟩
 | n+1,a,p=>by
  unfold whF
  cases h:(lr s)[a]? with
  | none=>exact ⟨Nat.le_refl _,by dsimp only; omega⟩
  | some c=>
   dsimp only
   split
   ·have:=XY n (a+1) p; have:=qm h; omega
   ·exact ⟨Nat.le_refl _,by omega⟩
theorem OS (p:UInt8→Bool):a≤vR p s a∧vR p s a≤max a s.size:=XY _ _ _
theorem AV:∀ {n a r:Nat},kQ s n a=some r→a≤s.size→a≤r∧r≤s.size
 | 0,_,_,h,_=>by cases h
 | n+1,a,r,h,ha=>by
  cases hc:(lr s)[a]? with
  | none=>unfold kQ at h; rw [hc] at h; obtain rfl:=Option.some.inj h; omega
  | some c=>
   have hk:=qm hc
   cases hb:tD c with
   | true=>have:=AV (Cz h hc hb) (by omega); omega
   | false=>
    cases hr:B5 s a ⟨#[47,47]⟩ with
    | true=>have h1:=OS (s:=s) (a:=a) yD; have:=AV (Hx h hc hb hr) (by omega); omega
    | false=>have:=Mm h hc hb hr; omega
end
def CO:List ByteArray:=[⟨#[61,61]⟩,⟨#[33,61]⟩,⟨#[60,61]⟩,⟨#[38,38]⟩,⟨#[124,124]⟩]
def qd (s:ByteArray) (a:Nat) (c:UInt8):Int:=if CO.any (B5 s a)=true then 2 else if (lr (ByteArray.mk #[40,41,123,125,59,44,61,60,33,43,45,42,47,37])).any (λ x=>decide ((x.toNat:Int)=c.toNat))=true then 1 else 0
def sN (l:List bF) (i:Int) (t:ByteArray):Bool:=decide (0≤i) && (match l[i.toNat]? with | some x=>decide (x.text=t) && decide (x.kind≠2) && decide (1≤x.kind) && decide (x.kind≤3) | none=>false)
def mS (l:List bF) (i:Int):Int:=match (if 0≤i then l[i.toNat]? else none) with
 | some x=>x.at_
 | none=>match l.getLast? with
  | some x=>x.at_+x.text.size
  | none=>0
theorem aea:∀ t∈CO,t.size≤1000000:=by decide
theorem rN {l:List bF} {i:Int} {t:ByteArray} (h:sN l i t=true):0≤i∧i<l.length:=by
 unfold sN at h
 rw [Bool.and_eq_true,decide_eq_true_eq] at h
 refine ⟨h.1,?_⟩
 cases hx:l[i.toNat]? with
 | none=>rw [hx] at h; cases h.2
 | some x=>have:=(List.getElem?_eq_some_iff.1 hx).1; omega
theorem C232 (s t:ByteArray) (i:Int) (w:World) (hz:s.size≤1000000) (hz2:t.size≤1000000) (h0:0≤i∧i≤2000000):CR 232 [.string s,.int .i64 i,.string t] w (λ v w'=>v = .bool (B5 s i t)∧Ext w w'):=by
 have hs:=St.start w;refine abo _ _ _ _ _ ?_;unfold S232;refine ⟨λ jv w'=>jv = .bool (B5 s i t)∧w=w',?_,?_⟩
 ·refine gi gN (aO (by omega) (gi gN (kj (aC (λ kP=>?_) (λ kP=>?_)))))
  ·refine gi gN (aO (by omega) (KW gN (by omega) (by omega) (by omega) (ub ?_)));exact ⟨vb (by unfold B5; grind),rfl⟩
  ·exact ⟨vb (by unfold B5; grind),rfl⟩
 ·rintro _ w1 ⟨rfl,hw⟩ fD;subst hw;exact ⟨rfl,hs.aF⟩
theorem C209 (s:ByteArray) (i N r:Nat) (w:World) (hz:s.size≤4000) (h0:i≤s.size) (hr:kQ s N i=some r):CR 209 [.string s,.int .i64 (i:Int)] w (λ v w'=>v = .int .i64 (r:Int)∧Ext w w'):=by
 have hz0:=hz;replace hz:s.size≤1000000:=by omega
 have hs:=St.start w;refine aa3 _ _ _ _ ?_;unfold S209;refine ⟨λ mm x w1=>∃ a:Nat,x = .int .i64 (a:Int)∧a≤s.size∧kQ s mm a=some r∧St w bD [] w1,⟨N,i,rfl,h0,hr,hs⟩,?_⟩;rintro mm _ w1 ⟨a,rfl,ha,hp,hs⟩ fD;obtain ⟨k,rfl⟩:=OR hp;refine gi gN (aR (aC (λ gA=>?_) (λ gA=>?_)))
 ·obtain ⟨asd,Fv⟩:∃ xx,(lr (s))[((a:Int)).toNat]? = some xx:=⟨_,List.getElem?_eq_getElem (by rw [ei]; omega)⟩;refine lO gN (by omega) Fv ?_;refine ⟨λ jv w'=>jv = .bool (tD asd)∧w1=w',?_,?_⟩
  ·refine od (aC (λ gX=>?_) (λ gX=>?_))
   ·exact ⟨vb (by unfold tD; first | exact (decide_eq_true (by omega)).symm | exact decide_eq_decide.2 (by omega)),rfl⟩
   ·refine od (aC (λ mg=>?_) (λ mg=>?_))
    ·exact ⟨vb (by unfold tD; first | exact (decide_eq_true (by omega)).symm | exact decide_eq_decide.2 (by omega)),rfl⟩
    ·refine od (aC (λ gz=>?_) (λ gz=>?_))
     ·exact ⟨vb (by unfold tD; first | exact (decide_eq_true (by omega)).symm | exact decide_eq_decide.2 (by omega)),rfl⟩
     ·refine od ?_;exact ⟨vb (by unfold tD; first | exact (decide_eq_true (by omega)).symm | exact decide_eq_decide.2 (by omega)),rfl⟩
  ·rintro _ w2 ⟨rfl,hw⟩ jH;subst hw;refine aX (λ sC=>?_) (λ sC=>?_)
   ·refine aO (by omega) ?_;have hal:=qm Fv;exact ⟨k,by omega,a+1,rfl,by omega,Cz hp Fv sC,hs⟩
   ·refine aZ afA hs (C232 s (ByteArray.mk #[47,47]) (a:Int) _ hz (by decide) (by omega)) (λ w3 he hs=>aX (λ lR=>?_) (λ lR=>?_))
    ·refine ⟨λ mm x w1=>∃ j:Nat,x = .int .i64 (j:Int)∧mm=s.size - j∧a≤j∧j≤s.size∧vR yD s a=vR yD s j∧St w bD [] w1,⟨_,a,rfl,rfl,Nat.le_refl _,ha,rfl,hs⟩,?_⟩;rintro mm _ w4 ⟨j,rfl,rfl,haj,hj,gr,hs⟩ oY;refine ⟨λ jv w'=>jv = .bool ((match (lr s)[j]? with | some c=>yD c | none=>false))∧w4=w',?_,?_⟩
     ·refine gi gN (aR (aC (λ jC=>?_) (λ jC=>?_)))
      ·obtain ⟨qD,qk⟩:∃ xx,(lr (s))[((j:Int)).toNat]? = some xx:=⟨_,List.getElem?_eq_getElem (by rw [ei]; omega)⟩;refine lO gN (by omega) qk (Vl ?_);exact ⟨vb (by first | (rw [show (lr s)[j]? = some qD from qk]; unfold yD; exact decide_eq_decide.2 (by omega)) | (rw [List.getElem?_eq_none (by rw [ei]; omega)])),rfl⟩
      ·exact ⟨vb (by first | (rw [show (lr s)[j]? = some qD from qk]; unfold yD; exact decide_eq_decide.2 (by omega)) | (rw [List.getElem?_eq_none (by rw [ei]; omega)])),rfl⟩
     ·rintro _ w5 ⟨rfl,hw⟩ G9;subst hw;refine aX (λ jD=>?_) (λ jD=>?_)
      ·refine aO (by omega) ?_
       have Rg:∃ c,(lr s)[j]? = some c∧yD c=true:=by
        cases hc:(lr s)[j]? with
        | none=>rw [hc] at jD; cases jD
        | some c=>rw [hc] at jD; exact ⟨c,rfl,jD⟩
       obtain ⟨cj,CP,S6⟩:=Rg;have hjl:=qm CP;exact ⟨_,by omega,j+1,rfl,rfl,by omega,by omega,gr.trans (Ft CP S6),hs⟩
      ·have azn:vR yD s j=j:=by
        by_cases hjs:j<s.size
        ·obtain ⟨cj,Rg⟩:∃ c,(lr s)[j]? = some c:=⟨_,List.getElem?_eq_getElem (by rw [ei]; exact hjs)⟩;rw [Rg] at jD; exact Fu Rg jD
        ·exact Jr (by omega)
       have Zp:=Hx hp Fv sC lR;rw [gr,azn] at Zp;exact ⟨k,by omega,j,rfl,hj,Zp,hs⟩
    ·have hx:=Mm hp Fv sC (by exact_mod_cast lR);subst hx;exact ⟨rfl,hs.aF⟩
 ·have hx:=S5 hp (by omega);subst hx;exact ⟨rfl,hs.aF⟩
theorem C210 (s:ByteArray) (i:Nat) (c:UInt8) (w:World) (hz:s.size≤1000000) (hc:(lr s)[i]? = some c):CR 210 [.string s,.int .i64 (i:Int)] w (λ v w'=>v = .int .i64 (qd s i c)∧Ext w w'):=by
 have hi:=qm hc;have hs:=St.start w;refine aa4 _ _ _ _ ?_;unfold S210;refine bV (CO) hs mY rfl rfl (eK rfl) (λ aps w1 hs=>?_);refine ⟨λ mm x w1=>∃ k:Nat,x = .int .i64 (k:Int)∧mm=CO.length - k∧k≤CO.length∧(∀ y∈CO.take k,B5 s i y=false)∧St w bD [bK aps CO] w1,⟨_,0,rfl,rfl,Nat.zero_le _,by simp,hs⟩,?_⟩;rintro mm _ w2 ⟨k,rfl,rfl,hk,fV,hs⟩ fD;refine aJ mY (hs).fF ?_;have Nv:CO.length=5:=rfl;refine aR (aC (λ kP=>?_) (λ kP=>?_))
 ·obtain ⟨agn,pe⟩:=gx (CO) (i:=((k:Int)).toNat) (by omega);refine dS hs mY (by omega) (by omega) (λ _ LO=>fY hs kn LO pe (aZ afA hs (C232 s agn (i:Int) _ hz (aea _ (List.mem_of_getElem? pe)) (by omega)) (λ w3 he hs=>aX (λ iT=>?_) (λ iT=>?_))))
  ·exact ⟨congrArg (Value.int .i64) (by unfold qd; rw [if_pos (jI pe iT)]),hs.drop.aF⟩
  ·refine aO (by omega) ?_;exact ⟨_,by omega,k+1,rfl,rfl,by omega,eH fV pe iT,hs⟩
 ·have hs:=(hs).drop;refine ⟨λ mm x w1=>∃ j:Nat,x = .int .i64 (j:Int)∧mm=(ByteArray.mk #[40,41,123,125,59,44,61,60,33,43,45,42,47,37]).size - j∧j≤(ByteArray.mk #[40,41,123,125,59,44,61,60,33,43,45,42,47,37]).size∧(∀ y∈(lr (ByteArray.mk #[40,41,123,125,59,44,61,60,33,43,45,42,47,37])).take j,decide ((y.toNat:Int)=c.toNat)=false)∧St w bD [] w1,⟨_,0,rfl,rfl,Nat.zero_le _,by simp,hs⟩,?_⟩;rintro mm _ w4 ⟨j,rfl,rfl,hj,EC,hs⟩ jH;refine gi gN ?_;have T4:(ByteArray.mk #[40,41,123,125,59,44,61,60,33,43,45,42,47,37]).size=14:=rfl;refine aR (aC (λ sC=>?_) (λ sC=>?_))
  ·obtain ⟨aq0,BP⟩:∃ xx,(lr ((ByteArray.mk #[40,41,123,125,59,44,61,60,33,43,45,42,47,37])))[((j:Int)).toNat]? = some xx:=⟨_,List.getElem?_eq_getElem (by rw [ei]; omega)⟩;refine lO gN (by omega) BP ?_;obtain ⟨vD,tx⟩:∃ xx,(lr (s))[((i:Int)).toNat]? = some xx:=⟨_,List.getElem?_eq_getElem (by rw [ei]; omega)⟩;refine lO gN (by omega) tx ?_;obtain rfl:=Option.some.inj (tx.symm.trans hc);refine od (aC (λ jC=>?_) (λ jC=>?_))
   ·have hs:=hs.drew;have hn2:CO.any (B5 s i)=false:=iM (by rw [List.take_of_length_le (by omega)] at fV; exact fV);exact ⟨congrArg (Value.int .i64) (by unfold qd; rw [if_neg (by rw [hn2]; simp),if_pos (jI BP (decide_eq_true jC))]),hs.aF⟩
   ·refine aO (by omega) ?_;have hs:=hs.drew;exact ⟨_,by omega,j+1,rfl,rfl,by omega,eH EC BP (decide_eq_false jC),hs⟩
  ·have hn2:CO.any (B5 s i)=false:=iM (by rw [List.take_of_length_le (by omega)] at fV; exact fV);have hn3:=iM (g:=λ x:UInt8=>decide ((x.toNat:Int)=c.toNat)) (by rw [List.take_of_length_le (by rw [ei]; omega)] at EC; exact EC);exact ⟨congrArg (Value.int .i64) (by unfold qd; rw [if_neg (by rw [hn2]; simp),if_neg (by rw [hn3]; simp)]),hs.aF⟩
theorem C211 (lv:Value) (l:List bF) (i:Int) (t:ByteArray) (w:World) (hL:eP (λ _=>True) w lv l) (hn:l.length≤1000000):CR 211 [lv,.int .i64 i,.string t] w (λ v w'=>v = .bool (sN l i t)∧Ext w w'):=by
 have hs:=St.start w;refine aa5 _ _ _ _ _ ?_;unfold S211;refine ⟨λ jv w'=>jv = .bool (sN l i t)∧w=w',?_,?_⟩
 ·refine dK (aC (λ gu=>?_) (λ gu=>?_))
  ·refine aJ fH (hL.ext hs.aF) (aR (aC (λ kP=>?_) (λ kP=>?_)))
   ·obtain ⟨rj,ju⟩:=gx (l) (i:=(i).toNat) (by omega);refine aQ fH hL (by omega) ju (λ _ wv=>bT (rj).text m9 wv rfl rfl (λ _ jQ=>aD kn (jQ.ext hs.aF) (ub (aC (λ iT=>?_) (λ iT=>?_)))))
    ·refine aQ fH hL (by omega) ju (λ _ wx=>bT (rj).kind lj wx rfl rfl (λ _ wB=>aD bL (wB.ext hs.aF) (cR (aC (λ nF=>?_) (λ nF=>?_)))))
     ·refine aQ fH hL (by omega) ju (λ _ Ac=>bT (rj).kind lj Ac rfl rfl (λ _ uf=>aD bL (uf.ext hs.aF) (dK (aC (λ nh=>?_) (λ nh=>?_)))))
      ·refine aQ fH hL (by omega) ju (λ _ yB=>bT (rj).kind lj yB rfl rfl (λ _ AW=>aD bL (AW.ext hs.aF) (kj ?_)));exact ⟨vb (by unfold sN; first | (rw [ju]; grind) | (rw [decide_eq_false (by omega)]; rfl) | (rw [List.getElem?_eq_none (by omega)]; simp)),rfl⟩
      ·exact ⟨vb (by unfold sN; first | (rw [ju]; grind) | (rw [decide_eq_false (by omega)]; rfl) | (rw [List.getElem?_eq_none (by omega)]; simp)),rfl⟩
     ·exact ⟨vb (by unfold sN; first | (rw [ju]; grind) | (rw [decide_eq_false (by omega)]; rfl) | (rw [List.getElem?_eq_none (by omega)]; simp)),rfl⟩
    ·exact ⟨vb (by unfold sN; first | (rw [ju]; grind) | (rw [decide_eq_false (by omega)]; rfl) | (rw [List.getElem?_eq_none (by omega)]; simp)),rfl⟩
   ·exact ⟨vb (by unfold sN; first | (rw [ju]; grind) | (rw [decide_eq_false (by omega)]; rfl) | (rw [List.getElem?_eq_none (by omega)]; simp)),rfl⟩
  ·exact ⟨vb (by unfold sN; first | (rw [ju]; grind) | (rw [decide_eq_false (by omega)]; rfl) | (rw [List.getElem?_eq_none (by omega)]; simp)),rfl⟩
 ·rintro _ w1 ⟨rfl,hw⟩ fD;subst hw;exact ⟨rfl,hs.aF⟩
theorem C215 (lv:Value) (l:List bF) (i:Int) (w:World) (hL:eP (λ _=>True) w lv l) (hn:l.length≤1000000) (te:∀ x∈l,0≤x.at_∧x.at_≤1000000∧x.text.size≤1000000):CR 215 [lv,.int .i64 i] w (λ v w'=>v = .int .i64 (mS l i)∧Ext w w'):=by
 have hs:=St.start w;refine aa9 _ _ _ _ ?_;unfold S215;refine ⟨λ jv w'=>jv = .bool (decide (0≤i∧i<l.length))∧w=w',?_,?_⟩
 ·refine dK (aC (λ oJ=>?_) (λ oJ=>?_))
  ·refine aJ fH (hL.ext hs.aF) (aR ?_);exact ⟨vQ (by omega),rfl⟩
  ·exact ⟨Zv (by omega),rfl⟩
 ·rintro _ w1 ⟨rfl,hw⟩ fD;subst hw;refine aC (λ j8=>?_) (λ j8=>?_)
  ·obtain ⟨pS,jZ⟩:=gx (l) (i:=(i).toNat) (by omega);refine aQ fH hL (by omega) jZ (λ _ ri=>bT (pS).at_ lq ri rfl rfl (λ _ ud=>aD bL (ud.ext hs.aF) ?_));exact ⟨congrArg (Value.int .i64) (by unfold mS; rw [if_pos (by omega),jZ]),hs.aF⟩
  ·refine aJ fH (hL.ext hs.aF) (aH (aC (λ jE=>?_) (λ jE=>?_)))
   ·have hl0:l=[]:=List.length_eq_zero_iff.1 (by omega);subst hl0;exact ⟨congrArg (Value.int .i64) (by unfold mS; split <;> simp_all),hs.aF⟩
   ·refine aJ fH (hL.ext hs.aF) (gD (by omega) ?_);obtain ⟨He,qj⟩:=gx (l) (i:=((((l).length:Int) - 1)).toNat) (by omega);refine aQ fH hL (by omega) qj (λ _ uq=>bT (He).at_ lq uq rfl rfl (λ _ rn=>have hs:=hs.drew;aD bL (rn.ext hs.aF) (aJ fH (hL.ext hs.aF) (gD (by omega) (aQ fH hL (by omega) qj (λ _ Ao=>bT (He).text m9 Ao rfl rfl (λ _ Ap=>aD kn (Ap.ext hs.aF) (gi gN ?_))))))));have hax:=te _ (List.mem_of_getElem? qj);refine aO (by omega) ?_;have hgl:l.getLast? = some He:=by rw [List.getLast?_eq_getElem?,← qj]; congr 1; omega
    have fV:(if 0≤i then l[i.toNat]? else none)=none:=by split; exact List.getElem?_eq_none (by omega); rfl
    exact ⟨congrArg (Value.int .i64) (by unfold mS; rw [fV,hgl]),hs.aF⟩
def numOf (s:ByteArray) (a k:Nat):Int:=(((lr s).drop a).take (k - a)).foldl (λ n c=>if n≤4294967296 then 10 * n+((c.toNat:Int) - 48) else n) 0
theorem Js (s:ByteArray) (a:Nat):numOf s a a=0:=by unfold numOf; rw [Nat.sub_self]; rfl
theorem zm {s:ByteArray} {a k:Nat} {c:UInt8} (ha:a≤k) (h:(lr s)[k]? = some c):numOf s a (k+1)=if numOf s a k≤4294967296 then 10 * numOf s a k+((c.toNat:Int) - 48) else numOf s a k:=by
 unfold numOf
 rw [show k+1 - a=(k - a)+1 from by omega,List.take_add_one,List.getElem?_drop,show a+(k - a)=k from by omega,h,Option.toList_some,List.foldl_append]
 rfl
theorem aeb {s:ByteArray} {a:Nat}:∀ {k:Nat},a≤k→k≤s.size→(∀ j c,a≤j→j<k→(lr s)[j]? = some c→48≤(c.toNat:Int)∧(c.toNat:Int)≤57)→0≤numOf s a k∧numOf s a k≤42949672969:=by
 intro k
 induction k with
 | zero=>
  intro h _ _
  have e:a=0:=by omega
  rw [e,Js]; omega
 | succ k ih=>
  intro ha hk hd
  by_cases e:a=k+1
  ·subst e; rw [Js]; omega
  ·have:=ih (by omega) (by omega) λ j c h1 h2=>hd j c h1 (by omega)
   obtain ⟨c,hc⟩:∃ c,(lr s)[k]? = some c:=⟨_,List.getElem?_eq_getElem (by rw [ei]; omega)⟩
   have h2:=hd k c (by omega) (by omega) hc
   rw [zm (by omega) hc]
   split <;> omega
def mz (s:ByteArray):Nat→Nat→List bF→Option (List bF × Int × Int)
 | 0,_,_=>none
 | n+1,a,out=>match (lr s)[a]? with
  | none=>some (out,0,0)
  | some c=>
   if jB c.toNat=true then (if 16<vR rM s a - a then some ([],2,(a:Int)) else (kQ s (s.size+1) (vR rM s a)).bind λ a'=>mz s n a' (out++[⟨1,s.extract a (vR rM s a),0,a⟩]))
   else if nx c.toNat=true then (if 4294967296<numOf s a (vR vO s a) then some ([],4,(a:Int)) else (kQ s (s.size+1) (vR vO s a)).bind λ a'=>mz s n a' (out++[⟨2,s.extract a (vR vO s a),numOf s a (vR vO s a),a⟩]))
   else if qd s a c=0 then some ([],3,(a:Int)) else (kQ s (s.size+1) (a+(qd s a c).toNat)).bind λ a'=>mz s n a' (out++[⟨3,s.extract a (a+(qd s a c).toNat),0,a⟩])
def uF (s:ByteArray):Option (List bF × Int × Int):=if 4000<s.size then some ([],2,4000) else (kQ s (s.size+1) 0).bind λ a=>mz s (s.size+2) a []
theorem OT {s:ByteArray} {n a:Nat} {out:List bF} {r:List bF × Int × Int} (h:mz s n a out=some r):∃ k,n=k+1:=by
 cases n with
 | zero=>cases h
 | succ k=>exact ⟨k,rfl⟩
def AX (s:ByteArray) (k a:Nat) (out:List bF) (R:List bF × Int × Int) (kd:Int) (e:Nat) (n:Int):Prop:=a<e∧e≤s.size∧∃ a',kQ s (s.size+1) e=some a'∧mz s k a' (out++[⟨kd,s.extract a e,n,a⟩])=some R
section
variable {s:ByteArray} {k a:Nat} {c:UInt8} {out:List bF} {R:List bF × Int × Int}
theorem S7 (h:mz s (k+1) a out=some R) (ha:s.size≤a):R=(out,0,0):=by
 unfold mz at h; rw [List.getElem?_eq_none (by rw [ei]; exact ha)] at h; exact (Option.some.inj h).symm
theorem Gk (h:mz s (k+1) a out=some R) (hc:(lr s)[a]? = some c) (hl:jB c.toNat=true) (hb:16<vR rM s a - a):R=([],2,(a:Int)):=by
 unfold mz at h; rw [hc] at h; dsimp only at h; rw [if_pos hl,if_pos hb] at h; exact (Option.some.inj h).symm
theorem B6 {e:Nat} {kd n:Int} (h:((kQ s (s.size+1) e).bind λ a'=>mz s k a' (out++[⟨kd,s.extract a e,n,a⟩]))=some R) (h1:a<e) (h2:e≤s.size):AX s k a out R kd e n:=by
 cases hp:kQ s (s.size+1) e with
 | none=>rw [hp] at h; cases h
 | some a'=>rw [hp] at h; exact ⟨h1,h2,a',hp,h⟩
theorem S9 (h:mz s (k+1) a out=some R) (hc:(lr s)[a]? = some c) (hl:jB c.toNat=true) (hb:¬ 16<vR rM s a - a) (hgt:a<vR rM s a):AX s k a out R 1 (vR rM s a) 0:=by
 unfold mz at h; rw [hc] at h; dsimp only at h; rw [if_pos hl,if_neg hb] at h
 have:=qm hc; have h2:=OS (s:=s) (a:=a) rM
 exact B6 h hgt (by omega)
theorem Jt (h:mz s (k+1) a out=some R) (hc:(lr s)[a]? = some c) (hl:jB c.toNat=false) (hd:nx c.toNat=true) (hb:4294967296<numOf s a (vR vO s a)):R=([],4,(a:Int)):=by
 unfold mz at h; rw [hc] at h; dsimp only at h; rw [if_neg (by rw [hl]; simp),if_pos hd,if_pos hb] at h; exact (Option.some.inj h).symm
theorem XZ (h:mz s (k+1) a out=some R) (hc:(lr s)[a]? = some c) (hl:jB c.toNat=false) (hd:nx c.toNat=true) (hb:¬ 4294967296<numOf s a (vR vO s a)) (hgt:a<vR vO s a):AX s k a out R 2 (vR vO s a) (numOf s a (vR vO s a)):=by
 unfold mz at h; rw [hc] at h; dsimp only at h; rw [if_neg (by rw [hl]; simp),if_pos hd,if_neg hb] at h
 have:=qm hc; have h2:=OS (s:=s) (a:=a) vO
 exact B6 h hgt (by omega)
theorem Ta (h:mz s (k+1) a out=some R) (hc:(lr s)[a]? = some c) (hl:jB c.toNat=false) (hd:nx c.toNat=false) (hb:qd s a c=0):R=([],3,(a:Int)):=by
 unfold mz at h; rw [hc] at h; dsimp only at h; rw [if_neg (by rw [hl]; simp),if_neg (by rw [hd]; simp),if_pos hb] at h; exact (Option.some.inj h).symm
theorem X0 (s:ByteArray) (a:Nat) (c:UInt8):qd s a c=0∨qd s a c=1∨qd s a c=2:=by
 unfold qd
 repeat' split
 all_goals simp
theorem Rh {s:ByteArray} {a:Nat} {c:UInt8} (h:(lr s)[a]? = some c):(a:Int)+qd s a c≤s.size:=by
 have hk:=qm h
 unfold qd
 split
 ·rename_i h2
  rw [List.any_eq_true] at h2
  obtain ⟨t,ht,hb⟩:=h2
  have:t.size=2:=by
   have mB:∀ t∈CO,t.size=2:=by decide
   exact mB t ht
  unfold B5 at hb
  rw [Bool.and_eq_true,decide_eq_true_eq] at hb
  omega
 ·split <;> omega
theorem Tb (h:mz s (k+1) a out=some R) (hc:(lr s)[a]? = some c) (hl:jB c.toNat=false) (hd:nx c.toNat=false) (hb:¬ qd s a c=0):AX s k a out R 3 (a+(qd s a c).toNat) 0:=by
 unfold mz at h; rw [hc] at h; dsimp only at h; rw [if_neg (by rw [hl]; simp),if_neg (by rw [hd]; simp),if_neg hb] at h
 have h1:=X0 s a c; have h2:=Rh hc
 exact B6 h (by omega) (by omega)
end
set_option maxHeartbeats 1000000 in
theorem C164 (s:ByteArray) (R:List bF × Int × Int) (w:World) (Y8:s.size≤1000000) (hr:uF s=some R):CR 164 [.string s] w (λ v w'=>∃ o,v = .tuple #[o,.int .i64 R.2.1,.int .i64 R.2.2]∧lY (bK o R.1) w w'):=by
 have hs:=St.start w;refine aar _ _ _ ?_;unfold S164;refine gi gN (dB (aC (λ gW=>?_) (λ gW=>?_)))
 ·have hR:([],2,4000)=R:=by unfold uF at hr; rw [if_pos (by omega)] at hr; exact Option.some.inj hr
  subst hR;exact ⟨_,rfl,hs.fX.fresh⟩
 ·have h4:s.size≤4000:=by omega
  obtain ⟨a0,ha0,hp0⟩:∃ a0,kQ s (s.size+1) 0=some a0∧mz s (s.size+2) a0 []=some R:=by
   unfold uF at hr;rw [if_neg (by omega)] at hr;cases hq:kQ s (s.size+1) 0 with
   | none=>rw [hq] at hr; cases hr
   | some a0=>rw [hq] at hr; exact ⟨a0,rfl,hr⟩
  have azp:=AV ha0 (by omega);refine bV (([]:List bF)) hs fH rfl rfl (eK rfl) (λ s_x12 w1 hs=>aZ afx hs (C209 s 0 (s.size+1) a0 _ (by omega) (by omega) ha0) (λ w2 he hs=>?_));refine ⟨λ mm o x w'=>∃ (a:Nat) (out:List bF),x = .int .i64 (a:Int)∧a≤s.size∧out.length≤a∧mz s mm a out=some R∧St w bD [bK o out] w',⟨_,a0,[],rfl,azp.2,Nat.zero_le _,hp0,hs⟩,?_⟩;rintro mm yI _ w3 ⟨a,out,rfl,ha,T4,hp,hs⟩ fD;obtain ⟨k,rfl⟩:=OT hp;refine gi gN (aR (aC (λ gj=>?_) (λ gj=>?_)))
  ·refine pop (Vc _) (aN hs ab7 (λ Tc w4 hs=>aI (x:=(⟨0,(ByteArray.mk #[]),0,(a:Int)⟩:bF)) hs afM rfl rfl (λ w5 hs=>?_)));refine ⟨λ to w'=>∃ (kd:Int) (e:Nat) (n:Int),to = .int .i64 (e:Int)∧AX s k a out R kd e n∧St w bD [cH Tc (Flat.enc (⟨kd,ByteArray.mk #[],n,(a:Int)⟩:bF)),bK yI out] w',?_,?_⟩
   ·obtain ⟨gY,iB⟩:∃ xx,(lr (s))[((a:Int)).toNat]? = some xx:=⟨_,List.getElem?_eq_getElem (by rw [ei]; omega)⟩;refine lO gN (by omega) iB ?_;have CQ:(lr s)[a]? = some gY:=iB;refine aZ Qg hs (C206 _ _) (λ w6 he hs=>aX (λ fT=>?_) (λ fT=>?_))
    ·have M3:=fT;refine aA lj (aV hs bL (eK rfl) (rfl) (λ w7 hs=>?_));have hs:=hs.enc (cs':=Flat.enc ({ (⟨0,(ByteArray.mk #[]),0,(a:Int)⟩:bF) with kind:=1}:bF)) rfl;have hs:=hs.p1.p1;refine ⟨λ mm x w'=>∃ j:Nat,x = .int .i64 (j:Int)∧mm=s.size - j∧a≤j∧j≤s.size∧vR rM s a=vR rM s j∧St w bD [cH Tc (Flat.enc (⟨1,ByteArray.mk #[],0,(a:Int)⟩:bF)),bK yI out] w',⟨_,a,rfl,rfl,Nat.le_refl _,ha,rfl,hs⟩,?_⟩;rintro mm _ w8 ⟨j,rfl,rfl,haj,hj,gr,hs⟩ jH;refine ⟨λ jv w'=>jv = .bool (match (lr s)[j]? with | some c=>rM c | none=>false)∧St w bD [cH Tc (Flat.enc (⟨1,ByteArray.mk #[],0,(a:Int)⟩:bF)),bK yI out] w',?_,?_⟩
     ·refine gi gN (aR (aC (λ nF=>?_) (λ nF=>?_)))
      ·obtain ⟨vD,tx⟩:∃ xx,(lr (s))[((j:Int)).toNat]? = some xx:=⟨_,List.getElem?_eq_getElem (by rw [ei]; omega)⟩;refine lO gN (by omega) tx ?_;have hcj0:(lr s)[j]? = some vD:=tx;refine aZ Qg hs (C206 _ _) (λ w9 he hs=>aX (λ jC=>?_) (λ jC=>?_))
       ·exact ⟨vb (by first | (rw [show (lr s)[j]? = some vD from tx]; show _=(jB vD.toNat || nx vD.toNat); rw [jC]; rfl) | (rw [List.getElem?_eq_none (by rw [ei]; omega)])),hs⟩
       ·refine lO gN (by omega) tx (aZ Qh hs (C208 _ _) (λ pP he hs=>?_));exact ⟨vb (by first | (rw [show (lr s)[j]? = some vD from tx]; show _=(jB vD.toNat || nx vD.toNat); rw [jC]; rfl) | (rw [List.getElem?_eq_none (by rw [ei]; omega)])),hs⟩
      ·exact ⟨vb (by first | (rw [show (lr s)[j]? = some vD from tx]; show _=(jB vD.toNat || nx vD.toNat); rw [jC]; rfl) | (rw [List.getElem?_eq_none (by rw [ei]; omega)])),hs⟩
     ·rintro _ sZ ⟨rfl,hs⟩ oY;refine aX (λ mL=>?_) (λ mL=>?_)
      ·refine aO (by omega) ?_
       have Rg:∃ c,(lr s)[j]? = some c∧rM c=true:=by
        cases hc:(lr s)[j]? with
        | none=>rw [hc] at mL; cases mL
        | some c=>rw [hc] at mL; exact ⟨c,rfl,mL⟩
       obtain ⟨cj,CP,S6⟩:=Rg;have hjl:=qm CP;exact ⟨_,by omega,j+1,rfl,rfl,by omega,by omega,gr.trans (Ft CP S6),hs⟩
      ·have Ju:vR rM s j=j:=by
        by_cases hjs:j<s.size
        ·obtain ⟨cj,Rg⟩:∃ c,(lr s)[j]? = some c:=⟨_,List.getElem?_eq_getElem (by rw [ei]; exact hjs)⟩;rw [Rg] at mL; exact Fu Rg mL
        ·exact Jr (by omega)
       refine gD (by omega) (dB (aC (λ Ag=>?_) (λ Ag=>?_)))
       ·have hs:=((hs.drop)).drop;have hR:=Gk hp CQ M3 (by rw [gr,Ju]; omega);subst hR;exact ⟨_,rfl,hs.fX.fresh⟩
       ·have hs:=hs.p1.p1
        have hgt:a<j:=by
         rcases Nat.lt_or_ge a j with h | h
         ·exact h
         ·obtain rfl:j=a:=by omega
          rw [CQ] at mL; have h9:rM gY=false:=mL; unfold rM at h9; rw [M3] at h9; cases h9
        have X1:=S9 hp CQ M3 (by rw [gr,Ju]; omega) (by rw [gr,Ju]; exact hgt);rw [gr,Ju] at X1;exact ⟨1,j,0,rfl,X1,hs⟩
    ·have M3:=fT;refine lO gN (by omega) iB (aZ Qh hs (C208 _ _) (λ vy he hs=>aX (λ Cm=>?_) (λ Cm=>?_)))
     ·have hda:=Cm;refine aA lj (aV hs bL (eK rfl) (rfl) (λ vz hs=>?_));have hs:=hs.enc (cs':=Flat.enc ({ (⟨0,(ByteArray.mk #[]),0,(a:Int)⟩:bF) with kind:=2}:bF)) rfl;have hs:=hs.p1.p1;refine ⟨λ mm x w'=>∃ j:Nat,x = .int .i64 (j:Int)∧mm=s.size - j∧a≤j∧j≤s.size∧vR vO s a=vR vO s j∧(∀ (i:Nat) (c:UInt8),a≤i→i<j→(lr s)[i]? = some c→48≤(c.toNat:Int)∧(c.toNat:Int)≤57)∧St w bD [cH Tc (Flat.enc (⟨2,ByteArray.mk #[],(numOf s a j),(a:Int)⟩:bF)),bK yI out] w',⟨_,a,rfl,rfl,Nat.le_refl _,ha,rfl,λ i c h1 h2=>absurd h1 (by omega),by rw [Js]; exact hs⟩,?_⟩
      rintro mm _ su ⟨j,rfl,rfl,haj,hj,gr,hdg,hs⟩ G9;refine ⟨λ jv w'=>jv = .bool (match (lr s)[j]? with | some c=>vO c | none=>false)∧St w bD [cH Tc (Flat.enc (⟨2,ByteArray.mk #[],(numOf s a j),(a:Int)⟩:bF)),bK yI out] w',?_,?_⟩
      ·refine gi gN (aR (aC (λ uj=>?_) (λ uj=>?_)))
       ·obtain ⟨ag6,OU⟩:∃ xx,(lr (s))[((j:Int)).toNat]? = some xx:=⟨_,List.getElem?_eq_getElem (by rw [ei]; omega)⟩;refine lO gN (by omega) OU (aZ Qh hs (C208 _ _) (λ wm he hs=>?_));exact ⟨vb (by first | (rw [show (lr s)[j]? = some ag6 from OU]; rfl) | (rw [List.getElem?_eq_none (by rw [ei]; omega)])),hs⟩
       ·exact ⟨vb (by first | (rw [show (lr s)[j]? = some ag6 from OU]; rfl) | (rw [List.getElem?_eq_none (by rw [ei]; omega)])),hs⟩
      ·rintro _ zq ⟨rfl,hs⟩ Sv;refine aX (λ qB=>?_) (λ qB=>?_)
       ·have Rg:∃ c,(lr s)[j]? = some c∧vO c=true:=by
         cases hc:(lr s)[j]? with
         | none=>rw [hc] at qB; cases qB
         | some c=>rw [hc] at qB; exact ⟨c,rfl,qB⟩
        obtain ⟨cj,CP,S6⟩:=Rg;have hjl:=qm CP;have hcd:=S6;unfold vO nx at hcd;rw [decide_eq_true_eq] at hcd;have hnb:=aeb haj (by omega) hdg;refine ⟨λ w'=>St w bD [cH Tc (Flat.enc (⟨2,ByteArray.mk #[],(numOf s a (j+1)),(a:Int)⟩:bF)),bK yI out] w',?_,?_⟩
        ·refine aA q9 (aB (v:=.int .i64 (numOf s a j)) bL hs.hb rfl (kj (aC (λ ot=>?_) (λ ot=>?_))))
         ·refine aA q9 (have hs:=hs.drew;aB (v:=.int .i64 (numOf s a j)) bL hs.hb rfl (Qk (by omega) ?_));obtain ⟨asg,X2⟩:∃ xx,(lr (s))[((j:Int)).toNat]? = some xx:=⟨_,List.getElem?_eq_getElem (by rw [ei]; omega)⟩;refine lO gN (by omega) X2 ?_;obtain rfl:=Option.some.inj (X2.symm.trans (show (lr s)[((j:Int)).toNat]? = some cj from CP));refine XT (by omega) (S3 xU oT (by omega) (aO (by omega) (aA q9 (aV hs bL (eK rfl) (rfl) (λ CH hs=>?_)))));have hs:=hs.enc (cs':=Flat.enc ({ (⟨2,ByteArray.mk #[],(numOf s a j),(a:Int)⟩:bF) with n:=((10 * (numOf s a j))+((asg.toNat:Int) - 48))}:bF)) rfl
          have hs:=hs.p1.p1;rw [zm haj CP,if_pos ot];exact hs
         ·have hs:=hs.p1.p1;rw [zm haj CP,if_neg ot];exact hs
        ·intro IN hs dd6;refine aO (by omega) ?_
         exact ⟨_,by omega,j+1,rfl,rfl,by omega,by omega,gr.trans (Ft CP S6),λ i c h1 h2 h3=>by
          by_cases e:i=j
          ·subst e; obtain rfl:=Option.some.inj (h3.symm.trans CP); omega
          ·exact hdg i c h1 (by omega) h3,hs⟩
       ·have Ju:vR vO s j=j:=by
         by_cases hjs:j<s.size
         ·obtain ⟨cj,Rg⟩:∃ c,(lr s)[j]? = some c:=⟨_,List.getElem?_eq_getElem (by rw [ei]; exact hjs)⟩;rw [Rg] at qB; exact Fu Rg qB
         ·exact Jr (by omega)
        refine aA q9 (aB (v:=.int .i64 (numOf s a j)) bL hs.hb rfl (dB (aC (λ Ai=>?_) (λ Ai=>?_))))
        ·have hs:=((hs.drop)).drop;have hR:=Jt hp CQ M3 hda (by rw [gr,Ju]; omega);subst hR;exact ⟨_,rfl,hs.fX.fresh⟩
        ·have hs:=hs.p1.p1
         have hgt:a<j:=by
          rcases Nat.lt_or_ge a j with h | h
          ·exact h
          ·obtain rfl:j=a:=by omega
           rw [CQ] at qB; have h9:vO gY=false:=qB; unfold vO at h9; rw [hda] at h9; cases h9
         have X1:=XZ hp CQ M3 hda (by rw [gr,Ju]; omega) (by rw [gr,Ju]; exact hgt);rw [gr,Ju] at X1;exact ⟨2,j,_,rfl,X1,hs⟩
     ·have hda:=Cm;have hsb:=X0 s a gY;have hsi:=Rh CQ;refine aA lj (aV hs bL (eK rfl) (rfl) (λ JQ hs=>have hs:=hs.enc (cs':=Flat.enc ({ (⟨0,(ByteArray.mk #[]),0,(a:Int)⟩:bF) with kind:=3}:bF)) rfl;aZ aoe hs (C210 s a gY _ Y8 CQ) (λ Lc he hs=>aO (by omega) (aH (aC (λ W4=>?_) (λ W4=>?_))))))
      ·have hs:=((hs.drop)).drop;have hR:=Ta hp CQ M3 hda (by omega);subst hR;exact ⟨_,rfl,hs.fX.fresh⟩
      ·have hs:=hs.p1.p1;have X1:=Tb hp CQ M3 hda (by omega);exact ⟨3,a+(qd s a gY).toNat,0,by congr 1; omega,X1,hs⟩
   ·rintro _ M4 ⟨kd,e,n,rfl,X1,hs⟩ dd7;have azq:=X1;obtain ⟨h1e0,h2e0,_⟩:=azq;refine KW gN (by omega) (by omega) (by omega) (aA m9 (aV hs kn (eK rfl) (rfl) (λ QS hs=>have hs:=hs.enc (cs':=Flat.enc ({ (⟨kd,ByteArray.mk #[],n,(a:Int)⟩:bF) with text:=((s).extract ((a:Int)).toNat ((e:Int)).toNat)}:bF)) rfl;aD afM hs.At (bV ([(⟨kd,s.extract (a:Int).toNat (e:Int).toNat,n,(a:Int)⟩:bF)]) hs fH rfl rfl (eK rfl) (λ ak4 T3 hs=>?_)))));have aec:=(hs).fF;refine cS hs.p2 fH aec (by simp; omega) (by decide) (λ ak5 Wk hs=>?_);have hs:=hs.p1.drop;obtain ⟨h1e,h2e,a2,Y6,Zp⟩:=X1
    have azr:=AV Y6 h2e;refine aZ afx hs (C209 s e (s.size+1) a2 _ (by omega) (by omega) Y6) (λ SB he hs=>?_);have hs:=(hs.p1).drop;exact ⟨k,by omega,a2,_,rfl,azr.2,by simp; omega,Zp,hs⟩
  ·have hR:=S7 hp (by omega);subst hR;exact ⟨_,rfl,hs.fresh⟩
structure fI where
 l:(List dC)
 to:Int
 e:Int
 at_:Int
deriving DecidableEq
structure dW where
 l:SV
 to:Int
 e:Int
 at_:Int
instance:Flat dW where
 agg:=true
 sz:=4
 enc e:=[.slice e.l.a e.l.n e.l.cap,.int .i64 e.to,.int .i64 e.e,.int .i64 e.at_]
 val e:=.agg [.slice e.l.a e.l.n e.l.cap,.int .i64 e.to,.int .i64 e.e,.int .i64 e.at_].toArray
 pos:=by decide
 len _:=rfl
 one a v h:=by simp at h; rcases h with rfl | rfl | rfl | rfl <;> rfl
 nU _ _:=rfl
 oI h:=by cases h
instance:bZ fI dW where
 dr w s x:=∃ (l_:SV),s=(⟨l_,x.to,x.e,x.at_⟩:dW)∧DL w (Flat.val l_) x.l
 ext h e:=by
  obtain ⟨g0,rfl,h0⟩:=h
  exact ⟨g0,rfl,h0.ext e⟩
theorem ld {w:World} {sh:dW} {x:fI} (h:bZ.dr w sh x):DL w (Flat.val sh.l) x.l:=by obtain ⟨_,rfl,h⟩:=h; exact h
def qn (n:Int):List Int:=if n=0 then [15] else if n=1 then [14] else if n=2 then [10,11,12,13] else if n=3 then [5,6] else [7,8,9]
def Dj:List ByteArray:=[⟨#[]⟩,⟨#[]⟩,⟨#[]⟩,⟨#[45]⟩,⟨#[33]⟩,⟨#[43]⟩,⟨#[45]⟩,⟨#[42]⟩,⟨#[47]⟩,⟨#[37]⟩,⟨#[61,61]⟩,⟨#[33,61]⟩,⟨#[60]⟩,⟨#[60,61]⟩,⟨#[38,38]⟩,⟨#[124,124]⟩]
def Mn (k:Int):ByteArray:=(Dj[k.toNat]?).getD ⟨#[]⟩
def gq (l:List bF) (i e:Int):fI:=⟨[],0,if (l.length:Int)≤i then 6 else e,mS l i⟩
abbrev ash (r:fI) (w:World):=qf λ v w'=>∃ sh:dW,v=Flat.val sh∧lY (eL (λ w=>bZ.dr w sh r)) w w'
def ak6 (l:List bF) (rec:Int→Int→Int→Option fI):Prop:=∀ (lv:Value) (i d n:Int) (r:fI) (w:World),eP (λ _=>True) w lv l→rec i d n=some r→0≤i∧i≤l.length→0≤d∧d≤12→0≤n∧n≤5→
 Calls PG 235 [lv,.int .i64 i,.int .i64 d,.int .i64 n].toArray w (ash r w)∧(n=5→Calls PG 257 [lv,.int .i64 i,.int .i64 d].toArray w (ash r w))
structure iD (l:List bF):Prop where
 n:l.length≤5000
 at_:∀ x∈l,0≤x.at_∧x.at_≤1000000∧x.text.size≤1000000
def Td (l:List bF) (i:Int):Bool:=sN l i ⟨#[33]⟩ || sN l i ⟨#[45]⟩
def pq (rec:Int→Int→Int→Option fI) (l:List bF) (i d:Int):Option fI:=
 match (if (l.length:Int)≤i then none else l[i.toNat]?) with
 | none=>some (gq l i 6)
 | some t=>if ((Td l i || sN l i ⟨#[40]⟩) && decide (d=12))=true then some (gq l i 7)
  else if Td l i=true then (rec (i+1) (d+1) 5).bind λ x=>if x.l.length≤10000 then some (if x.e≠0 then x else {x with l:=[⟨if t.text=⟨#[45]⟩ then 3 else 4,0,⟨#[]⟩,t.at_⟩]++x.l}) else none
  else if sN l i ⟨#[40]⟩=true then (rec (i+1) (d+1) 0).bind λ x=>some (if x.e≠0 then x else if sN l x.to ⟨#[41]⟩=true then {x with to:=x.to+1} else gq l x.to 5)
  else if t.kind=2 then some ⟨[⟨1,t.n,⟨#[]⟩,t.at_⟩],i+1,0,0⟩
  else if (decide (t.kind=1) && j9 t.text)=true then some ⟨[⟨2,0,t.text,t.at_⟩],i+1,0,0⟩
  else some (gq l i 5)
def Fx (l:List bF) (to n:Int) (k:Nat):Int:=((qn n).take k).foldl (λ op f=>if sN l to (Mn f)=true then f else op) 0
def Jv (l:List bF) (to n:Int):Int:=Fx l to n (qn n).length
theorem Hy {l:List bF} {to n:Int} {k:Nat} {f:Int} (h:(qn n)[k]? = some f):Fx l to n (k+1)=if sN l to (Mn f)=true then f else Fx l to n k:=by
 unfold Fx; rw [List.take_add_one,h,Option.toList_some,List.foldl_append]; rfl
def vF (rec:Int→Int→Int→Option fI) (l:List bF) (d n:Int):Nat→fI→Option fI
 | 0,_=>none
 | k+1,x=>if x.e≠0 then some x else if Jv l x.to n=0 then some x else match (if 0≤x.to then l[x.to.toNat]? else none) with
  | none=>none
  | some t=>match rec (x.to+1) d (n+1) with
   | none=>none
   | some y=>if y.e≠0 then some y else if x.l.length+y.l.length≤10000 then
     (if n=2 then some ⟨[⟨Jv l x.to n,0,⟨#[]⟩,t.at_⟩]++x.l++y.l,y.to,0,0⟩ else vF rec l d n k ⟨[⟨Jv l x.to n,0,⟨#[]⟩,t.at_⟩]++x.l++y.l,y.to,0,0⟩) else none
def Hz (l:List bF):Nat→Int→Int→Int→Option fI
 | 0,_,_,_=>none
 | k+1,i,d,n=>if n=5 then pq (Hz l k) l i d else (Hz l k i d (n+1)).bind (vF (Hz l k) l d n k)
theorem X3 {n:Int} {k:Nat} {f:Int} (h:(qn n)[k]? = some f):5≤f∧f≤15:=by
 have hm:=List.mem_of_getElem? h
 unfold qn at hm
 repeat' split at hm
 all_goals (simp at hm; omega)
section
variable {rec:Int→Int→Int→Option fI} {l:List bF} {i d n:Int} {r x y:fI} {t:bF} {k:Nat}
theorem OV (h:pq rec l i d=some r) (hl:(l.length:Int)≤i):r=gq l i 6:=by
 unfold pq at h; rw [if_pos hl] at h; exact (Option.some.inj h).symm
theorem Mo (h:pq rec l i d=some r) (hl:¬ (l.length:Int)≤i) (ht:l[i.toNat]? = some t) (hd:((Td l i || sN l i ⟨#[40]⟩) && decide (d=12))=true):r=gq l i 7:=by
 unfold pq at h; rw [if_neg hl,ht] at h; dsimp only at h; rw [if_pos hd] at h; exact (Option.some.inj h).symm
theorem Te (h:pq rec l i d=some r) (hl:¬ (l.length:Int)≤i) (ht:l[i.toNat]? = some t) (hd:((Td l i || sN l i ⟨#[40]⟩) && decide (d=12))=false) (hu:Td l i=true) :
  ∃ x,rec (i+1) (d+1) 5=some x∧x.l.length≤10000∧r=if x.e≠0 then x else {x with l:=[⟨if t.text=⟨#[45]⟩ then 3 else 4,0,⟨#[]⟩,t.at_⟩]++x.l}:=by
 unfold pq at h; rw [if_neg hl,ht] at h; dsimp only at h; rw [if_neg (by rw [hd]; simp),if_pos hu] at h
 cases hr:rec (i+1) (d+1) 5 with
 | none=>rw [hr] at h; cases h
 | some x=>
  rw [hr] at h
  by_cases hx:x.l.length≤10000
  ·exact ⟨x,rfl,hx,by simpa [hx] using h.symm⟩
  ·simp [hx] at h
theorem Mp (h:pq rec l i d=some r) (hl:¬ (l.length:Int)≤i) (ht:l[i.toNat]? = some t) (hd:((Td l i || sN l i ⟨#[40]⟩) && decide (d=12))=false) (hu:Td l i=false) (ho:sN l i ⟨#[40]⟩=true) :
  ∃ x,rec (i+1) (d+1) 0=some x∧r=if x.e≠0 then x else if sN l x.to ⟨#[41]⟩=true then {x with to:=x.to+1} else gq l x.to 5:=by
 unfold pq at h; rw [if_neg hl,ht] at h; dsimp only at h; rw [if_neg (by rw [hd]; simp),if_neg (by rw [hu]; simp),if_pos ho] at h
 cases hr:rec (i+1) (d+1) 0 with
 | none=>rw [hr] at h; cases h
 | some x=>rw [hr] at h; exact ⟨x,rfl,(Option.some.inj h).symm⟩
theorem Mq (h:pq rec l i d=some r) (hl:¬ (l.length:Int)≤i) (ht:l[i.toNat]? = some t) (hd:((Td l i || sN l i ⟨#[40]⟩) && decide (d=12))=false) (hu:Td l i=false) (ho:sN l i ⟨#[40]⟩=false) :
  r=if t.kind=2 then ⟨[⟨1,t.n,⟨#[]⟩,t.at_⟩],i+1,0,0⟩ else if (decide (t.kind=1) && j9 t.text)=true then ⟨[⟨2,0,t.text,t.at_⟩],i+1,0,0⟩ else gq l i 5:=by
 unfold pq at h; rw [if_neg hl,ht] at h; dsimp only at h; rw [if_neg (by rw [hd]; simp),if_neg (by rw [hu]; simp),if_neg (by rw [ho]; simp)] at h
 split at h
 ·rename_i h1; rw [if_pos h1]; exact (Option.some.inj h).symm
 ·rename_i h1; rw [if_neg h1]
  split at h
  ·rename_i h2; rw [if_pos h2]; exact (Option.some.inj h).symm
  ·rename_i h2; rw [if_neg h2]; exact (Option.some.inj h).symm
theorem OX (h:vF rec l d n k x=some r):∃ j,k=j+1:=by
 cases k with
 | zero=>cases h
 | succ j=>exact ⟨j,rfl⟩
theorem aed (h:vF rec l d n (k+1) x=some r) (he:x.e≠0):r=x:=by
 unfold vF at h; rw [if_pos he] at h; exact (Option.some.inj h).symm
theorem X4 (h:vF rec l d n (k+1) x=some r) (he:¬ x.e≠0) (ho:Jv l x.to n=0):r=x:=by
 unfold vF at h; rw [if_neg he,if_pos ho] at h; exact (Option.some.inj h).symm
theorem X5 (h:vF rec l d n (k+1) x=some r) (he:¬ x.e≠0) (ho:¬ Jv l x.to n=0):∃ t y,0≤x.to∧l[x.to.toNat]? = some t∧rec (x.to+1) d (n+1)=some y∧(y.e≠0→r=y)∧
  (¬ y.e≠0→x.l.length+y.l.length≤10000∧(n=2→r=⟨[⟨Jv l x.to n,0,⟨#[]⟩,t.at_⟩]++x.l++y.l,y.to,0,0⟩)∧(¬ n=2→vF rec l d n k ⟨[⟨Jv l x.to n,0,⟨#[]⟩,t.at_⟩]++x.l++y.l,y.to,0,0⟩=some r)):=by
 unfold vF at h; rw [if_neg he,if_neg ho] at h
 by_cases h0:0≤x.to
 ·rw [if_pos h0] at h
  cases ht:l[x.to.toNat]? with
  | none=>rw [ht] at h; cases h
  | some t=>
   rw [ht] at h; dsimp only at h
   cases hr:rec (x.to+1) d (n+1) with
   | none=>rw [hr] at h; cases h
   | some y=>
    rw [hr] at h; dsimp only at h
    refine ⟨t,y,h0,rfl,rfl,λ hy=>?_,λ hy=>?_⟩
    ·rw [if_pos hy] at h; exact (Option.some.inj h).symm
    ·rw [if_neg hy] at h
     by_cases hl:x.l.length+y.l.length≤10000
     ·rw [if_pos hl] at h
      refine ⟨hl,λ h2=>?_,λ h2=>?_⟩
      ·rw [if_pos h2] at h; exact (Option.some.inj h).symm
      ·rw [if_neg h2] at h; exact h
     ·rw [if_neg hl] at h; cases h
 ·rw [if_neg h0] at h; cases h
theorem ag7 (h:Hz l (k+1) i d 5=some r):pq (Hz l k) l i d=some r:=by unfold Hz at h; rw [if_pos rfl] at h; exact h
theorem asi (h:Hz l (k+1) i d n=some r) (hn:¬ n=5):∃ x,Hz l k i d (n+1)=some x∧vF (Hz l k) l d n k x=some r:=by
 unfold Hz at h; rw [if_neg hn] at h
 cases hx:Hz l k i d (n+1) with
 | none=>rw [hx] at h; cases h
 | some x=>rw [hx] at h; exact ⟨x,rfl,h⟩
end
def vG (l:List bF) (i:Int):Option (List dC × Int × Int × Int):=if i<0 then some ([],0,1,0) else (Hz l 10000 i 0 0).bind λ x=>
 if x.e≠0 then some ([],0,x.e,x.at_) else match yS x.l,l[i.toNat]? with
  | some t,some k=>if x.l.length≤10000 then (if 12<t.depth then some ([],0,7,k.at_) else if 40<x.l.length then some ([],0,2,k.at_) else some (x.l,x.to,0,0)) else none
  | _,_=>none
theorem OY (n:Int):(qn n).length≤4:=by
 unfold qn
 repeat' split
 all_goals simp
theorem C258 (n:Int) (w:World) (hn:0≤n∧n≤4):CR 258 [.int .i64 n] w (λ v w'=>lY (bK v (qn n)) w w'):=by
 have hs:=St.start w;refine abQ _ _ _ ?_;unfold S258;refine bV (([15]:List Int)) hs eh rfl rfl (eK rfl) (λ asj w1 hs=>bV (([14]:List Int)) hs eh rfl rfl (eK rfl) (λ axm w2 hs=>bV (([10,11,12,13]:List Int)) hs eh rfl rfl (eK rfl) (λ IQ w3 hs=>bV (([5,6]:List Int)) hs eh rfl rfl (eK rfl) (λ ac9 w4 hs=>bV (([7,8,9]:List Int)) hs eh rfl rfl (eK rfl) (λ Lz w5 hs=>?_)))));obtain ⟨Ri,rfl⟩:=(hs.p4).fU;obtain ⟨De,rfl⟩:=(hs.p3).fU;obtain ⟨Rj,rfl⟩:=(hs.p2).fU;obtain ⟨Rk,rfl⟩:=(hs.p1).fU;obtain ⟨Rl,rfl⟩:=(hs).fU;refine bV ([Ri,De,Rj,Rk,Rl]) hs yq rfl rfl (eK rfl) (λ ye w6 hs=>?_)
 have hs:=((((((((((((hs.acf (α:=Int))).p6).p1).D6).p5).p1).D6).p4).p1).D6).p3).p1;have hs:=hs.D6.p2.p1.D6;obtain rfl | rfl | rfl | rfl | rfl:n=0∨n=1∨n=2∨n=3∨n=4:=by omega
 ·have aee:=hs.zY;refine dS hs.p1 yq (by decide) (by simp) (λ Rm qC=>fY hs.p1 eB qC (show _=some Ri from rfl) ?_);have hs:=hs.split;exact hs.fresh
 ·have aee:=hs.zY;refine dS hs.p1 yq (by decide) (by simp) (λ Rm qC=>fY hs.p1 eB qC (show _=some De from rfl) ?_);have hs:=hs.split.drop.split;exact hs.fresh
 ·have aee:=hs.zY;refine dS hs.p1 yq (by decide) (by simp) (λ Rm qC=>fY hs.p1 eB qC (show _=some Rj from rfl) ?_);have hs:=hs.split.drop.split.drop.split;exact hs.fresh
 ·have aee:=hs.zY;refine dS hs.p1 yq (by decide) (by simp) (λ Rm qC=>fY hs.p1 eB qC (show _=some Rk from rfl) ?_);have hs:=hs.split.drop.split.drop.split.drop.split;exact hs.fresh
 ·have aee:=hs.zY;refine dS hs.p1 yq (by decide) (by simp) (λ Rm qC=>fY hs.p1 eB qC (show _=some Rl from rfl) ?_);have hs:=hs.split.drop.split.drop.split.drop.split.drop.split;exact hs.fresh
theorem C259 (k:Int) (w:World) (hk:0≤k∧k≤15):CR 259 [.int .i64 k] w (λ v w'=>v = .string (Mn k)∧Ext w w'):=by
 have hs:=St.start w;refine abR _ _ _ ?_;unfold S259;refine bV (Dj) hs mY rfl rfl (eK rfl) (λ asj w1 hs=>?_);have hsl:Dj.length=16:=rfl;obtain ⟨azs,Mr⟩:=gx (Dj) (i:=(k).toNat) (by omega);refine dS hs mY (by omega) (by omega) (λ _ SG=>fY hs kn SG Mr ?_);refine ⟨?_,hs.drop.aF⟩;unfold Mn;rw [Mr]; rfl
theorem C263 (lv:Value) (l:List bF) (i e:Int) (w:World) (hL:eP (λ _=>True) w lv l) (hk:iD l):CR 263 [lv,.int .i64 i,.int .i64 e] w (λ v w'=>∃ sh:dW,v=Flat.val sh∧lY (eL (λ w=>bZ.dr w sh (gq l i e))) w w'):=by
 have FR:=hk.n;have hn:l.length≤1000000:=by omega
 have te:=hk.at_;have hs:=St.start w;refine abV _ _ _ _ _ ?_;unfold S263;refine aN hs sn (λ OA w1 hs=>?_);have hs:=hs.enc (cs':=Flat.enc (⟨⟨none,0,0⟩,0,0,0⟩:dW)) rfl;refine ⟨λ jv w'=>jv = .int .i64 (if (l.length:Int)≤i then 6 else e)∧w1=w',?_,?_⟩
 ·refine aJ fH (hL.ext hs.aF) (dK (aC (λ fR=>?_) (λ fR=>?_)))
  ·exact ⟨by rw [if_pos (by omega)],rfl⟩
  ·exact ⟨by rw [if_neg (by omega)],rfl⟩
 ·rintro _ w2 ⟨rfl,hw⟩ fD;subst hw;refine aZ GI hs (C215 _ l i _ (hL.ext hs.aF) hn te) (λ w3 he hs=>pop (NH _ _) (aI (x:=(⟨⟨none,0,0⟩,0,(if (l.length:Int)≤i then 6 else e),(mS l i)⟩:dW)) hs fW rfl rfl (λ w4 hs=>aD fW hs.At ?_)));have hs:=hs.gK (Φ:=(λ w=>bZ.dr w (⟨⟨none,0,0⟩,0,(if (l.length:Int)≤i then 6 else e),(mS l i)⟩:dW) (⟨[],0,(if (l.length:Int)≤i then 6 else e),(mS l i)⟩:fI))) (λ w=>⟨_,rfl,DL.nil _⟩);have hs:=(hs.p1).drop;exact ⟨_,rfl,hs.fresh⟩
set_option maxHeartbeats 2000000 in
theorem C257 (l:List bF) (rec:Int→Int→Int→Option fI) (lv:Value) (i d:Int) (r:fI) (w:World) (hL:eP (λ _=>True) w lv l) (hk:iD l) (HR:ak6 l rec) (h0:0≤i∧i≤l.length) (hd:0≤d∧d≤12) (hr:pq rec l i d=some r):CR 257 [lv,.int .i64 i,.int .i64 d] w (λ v w'=>∃ sh:dW,v=Flat.val sh∧lY (eL (λ w=>bZ.dr w sh r)) w w'):=by
 have FR:=hk.n;have hn:l.length≤1000000:=by omega
 have te:=hk.at_;have hs:=St.start w;refine abP _ _ _ _ _ ?_;unfold S257;refine aN hs sn (λ OA w1 hs=>have hs:=hs.enc (cs':=Flat.enc (⟨⟨none,0,0⟩,0,0,0⟩:dW)) rfl;aJ fH (hL.ext hs.aF) (dK (aC (λ eE=>?_) (λ eE=>?_))))
 ·refine eA Qj (C263 _ l i 6 _ (hL.ext hs.aF) hk) ?_;rintro _ w2 ⟨OZ,rfl,cA⟩;have hs:=hs.made cA;obtain ⟨AY,O0,_⟩:=(hs).eL;subst O0;refine aI (x:=(⟨AY,((gq l i 6)).to,((gq l i 6)).e,((gq l i 6)).at_⟩:dW)) hs.p1 fW rfl rfl (λ w3 hs=>aD fW hs.At ?_);have hR:r=(⟨((gq l i 6)).l,((gq l i 6)).to,((gq l i 6)).e,((gq l i 6)).at_⟩:fI):=OV hr (by omega);rw [hR];have hs:=hs.p1.dU (Ψ:=(λ w=>bZ.dr w (⟨AY,((gq l i 6)).to,((gq l i 6)).e,((gq l i 6)).at_⟩:dW) (⟨((gq l i 6)).l,((gq l i 6)).to,((gq l i 6)).e,((gq l i 6)).at_⟩:fI))) (λ w h=>⟨_,rfl,ld (h)⟩)
  have hs:=(hs.p1).drop;exact ⟨_,rfl,hs.fresh⟩
 ·obtain ⟨t,ht⟩:∃ t,l[i.toNat]? = some t:=⟨_,List.getElem?_eq_getElem (by omega)⟩;have hta:=te t (List.mem_of_getElem? ht);refine ⟨λ jv w'=>jv = .bool (Td l i)∧St w bD [cH OA (Flat.enc (⟨⟨none,0,0⟩,0,0,0⟩:dW))] w',?_,?_⟩
  ·refine aZ vw hs (C211 _ l i (ByteArray.mk #[33]) _ (hL.ext hs.aF) hn) (λ w4 he hs=>aX (λ iT=>?_) (λ iT=>?_))
   ·exact ⟨vb (by unfold Td; rw [iT]; rfl),hs⟩
   ·refine aZ vw hs (C211 _ l i (ByteArray.mk #[45]) _ (hL.ext hs.aF) hn) (λ w5 he hs=>?_);exact ⟨vb (by unfold Td; rw [iT]; rfl),hs⟩
  ·rintro _ w6 ⟨rfl,hs⟩ fD;refine aZ vw hs (C211 _ l i (ByteArray.mk #[40]) _ (hL.ext hs.aF) hn) (λ w7 he hs=>?_);refine ⟨λ jv w'=>jv = .bool ((Td l i || sN l i (ByteArray.mk #[40])) && decide (d=12))∧St w bD [cH OA (Flat.enc (⟨⟨none,0,0⟩,0,0,0⟩:dW))] w',?_,?_⟩
   ·refine aX (λ nK=>?_) (λ nK=>?_)
    ·refine aH ?_;exact ⟨vb (by first | (rw [nK]; simp; done) | (rw [nK,nF]; simp; done) | (rw [nK]; rfl) | (rw [nK,nF]; rfl)),hs⟩
    ·refine aX (λ nF=>?_) (λ nF=>?_)
     ·refine aH ?_;exact ⟨vb (by first | (rw [nK]; simp; done) | (rw [nK,nF]; simp; done) | (rw [nK]; rfl) | (rw [nK,nF]; rfl)),hs⟩
     ·exact ⟨vb (by first | (rw [nK]; simp; done) | (rw [nK,nF]; simp; done) | (rw [nK]; rfl) | (rw [nK,nF]; rfl)),hs⟩
   ·rintro _ w8 ⟨rfl,hs⟩ jH;refine aX (λ nh=>?_) (λ nh=>?_)
    ·refine eA Qj (C263 _ l i 7 _ (hL.ext hs.aF) hk) ?_;rintro _ w9 ⟨azt,rfl,cA⟩;have hs:=hs.made cA;obtain ⟨Rn,ak7,_⟩:=(hs).eL;subst ak7;refine aI (x:=(⟨Rn,((gq l i 7)).to,((gq l i 7)).e,((gq l i 7)).at_⟩:dW)) hs.p1 fW rfl rfl (λ pP hs=>aD fW hs.At ?_);have hR:r=(⟨((gq l i 7)).l,((gq l i 7)).to,((gq l i 7)).e,((gq l i 7)).at_⟩:fI):=Mo hr (by omega) ht nh;rw [hR];have hs:=hs.p1.dU (Ψ:=(λ w=>bZ.dr w (⟨Rn,((gq l i 7)).to,((gq l i 7)).e,((gq l i 7)).at_⟩:dW) (⟨((gq l i 7)).l,((gq l i 7)).to,((gq l i 7)).e,((gq l i 7)).at_⟩:fI))) (λ w h=>⟨_,rfl,ld (h)⟩)
     have hs:=(hs.p1).drop;exact ⟨_,rfl,hs.fresh⟩
    ·refine aX (λ nK=>?_) (λ nK=>?_)
     ·refine aO (by omega) (aO (by omega) ?_);have azu:¬ d=12:=λ h=>by rw [nK,decide_eq_true h] at nh; cases nh
      obtain ⟨x1,hx1,PE,hrx⟩:=Te hr (by omega) ht nh nK;refine eA afD ((HR _ (i+1) (d+1) 5 x1 _ (hL.ext hs.aF) hx1 (by omega) (by omega) (by omega)).2 rfl) ?_;rintro _ sZ ⟨azv,rfl,cA⟩;have hs:=hs.made cA;obtain ⟨Dk,ak8,_⟩:=(hs).eL;subst ak8;refine aN hs sn (λ Eh vy hs=>have hs:=hs.enc (cs':=Flat.enc (⟨⟨none,0,0⟩,0,0,0⟩:dW)) rfl;aI (x:=(⟨Dk,(x1).to,(x1).e,(x1).at_⟩:dW)) hs fW rfl rfl (λ vz hs=>aA tY (aB (v:=.int .i64 (x1).e) nu hs.hb rfl (cR (aC (λ pR=>?_) (λ pR=>?_))))))
      ·refine aD fW hs.At (aI (x:=(⟨Dk,(x1).to,(x1).e,(x1).at_⟩:dW)) hs.p2 fW rfl rfl (λ su hs=>aD fW hs.At ?_));have hR:r=(⟨(x1).l,(x1).to,(x1).e,(x1).at_⟩:fI):=hrx.trans (if_pos pR);rw [hR];have hs:=hs.p2.dU (Ψ:=(λ w=>bZ.dr w (⟨Dk,(x1).to,(x1).e,(x1).at_⟩:dW) (⟨(x1).l,(x1).to,(x1).e,(x1).at_⟩:fI))) (λ w h=>⟨_,rfl,ld (h)⟩);have hs:=((hs.p1.drop).p1).drop;exact ⟨_,rfl,hs.fresh⟩
      ·refine ⟨λ jv w'=>jv = .int .i64 (if t.text=ByteArray.mk #[45] then 3 else 4)∧vz=w',?_,?_⟩
       ·refine aQ fH (hL.ext hs.aF) (by omega) ht (λ _ Ei=>bT (t).text m9 Ei rfl rfl (λ _ L6=>aD kn (L6) (ub (aC (λ uj=>?_) (λ uj=>?_)))))
        ·exact ⟨by rw [if_pos uj],rfl⟩
        ·exact ⟨by rw [if_neg uj],rfl⟩
       ·rintro _ wm ⟨rfl,hw⟩ oY;subst hw;obtain ⟨op,ag8⟩:∃ op,op=(if t.text=ByteArray.mk #[45] then (3:Int) else 4):=⟨_,rfl⟩;rw [← ag8];refine aQ fH (hL.ext hs.aF) (by omega) ht (λ _ LQ=>bT (t).at_ lq LQ rfl rfl (λ _ Lw=>aD bL (Lw) (pop (D4 _ _) (bV ([(⟨op,0,(ByteArray.mk #[]),(t).at_⟩:dC)]) hs lX rfl rfl (eK rfl) (λ s_x66 zq hs=>aA re (aB (v:=Flat.val (Dk:SV)) mX hs.p1.hb rfl ?_))))));have BL:=(DL.flat (ld (hs.p2).eL));refine cS hs lX BL (by simp; omega) (by decide) (λ agT CH hs=>aA re ?_);obtain ⟨O1,rfl⟩:=(hs).fU
        refine aV hs.p1 mX (eK rfl) (rfl) (λ IN hs=>have hs:=hs.enc (cs':=Flat.enc (⟨O1,(x1).to,(x1).e,(x1).at_⟩:dW)) rfl;aD fW hs.At (aI (x:=(⟨O1,(x1).to,(x1).e,(x1).at_⟩:dW)) hs.p3 fW rfl rfl (λ JQ hs=>aD fW hs.At ?_)));have hR:r=(⟨([(⟨op,0,(ByteArray.mk #[]),(t).at_⟩:dC)]++(x1).l),(x1).to,(x1).e,(x1).at_⟩:fI):=by rw [hrx,if_neg pR,← ag8]
        rw [hR];have hs:=hs.p2.freeze.dU (Ψ:=(λ w=>bZ.dr w (⟨O1,(x1).to,(x1).e,(x1).at_⟩:dW) (⟨([(⟨op,0,(ByteArray.mk #[]),(t).at_⟩:dC)]++(x1).l),(x1).to,(x1).e,(x1).at_⟩:fI))) (λ w h=>⟨_,rfl,DL.fx h⟩);have hs:=(((hs.p1.drop.p1).drop).p1).drop;exact ⟨_,rfl,hs.fresh⟩
     ·refine aX (λ nF=>?_) (λ nF=>?_)
      ·refine aO (by omega) (aO (by omega) ?_);have azu:¬ d=12:=λ h=>by rw [nK,nF,decide_eq_true h] at nh; cases nh
       obtain ⟨x1,hx1,hrx⟩:=Mp hr (by omega) ht nh nK nF;refine eA Qi ((HR _ (i+1) (d+1) 0 x1 _ (hL.ext hs.aF) hx1 (by omega) (by omega) (by omega)).1) ?_;rintro _ Lc ⟨azw,rfl,cA⟩;have hs:=hs.made cA;obtain ⟨xK,ak9,_⟩:=(hs).eL;subst ak9;refine aN hs sn (λ Vq M4 hs=>have hs:=hs.enc (cs':=Flat.enc (⟨⟨none,0,0⟩,0,0,0⟩:dW)) rfl;aI (x:=(⟨xK,(x1).to,(x1).e,(x1).at_⟩:dW)) hs fW rfl rfl (λ QS hs=>aA tY (aB (v:=.int .i64 (x1).e) nu hs.hb rfl (cR (aC (λ HA=>?_) (λ HA=>?_))))))
       ·refine aD fW hs.At (aI (x:=(⟨xK,(x1).to,(x1).e,(x1).at_⟩:dW)) hs.p2 fW rfl rfl (λ T3 hs=>aD fW hs.At ?_));have hR:r=(⟨(x1).l,(x1).to,(x1).e,(x1).at_⟩:fI):=hrx.trans (if_pos HA);rw [hR];have hs:=hs.p2.dU (Ψ:=(λ w=>bZ.dr w (⟨xK,(x1).to,(x1).e,(x1).at_⟩:dW) (⟨(x1).l,(x1).to,(x1).e,(x1).at_⟩:fI))) (λ w h=>⟨_,rfl,ld (h)⟩);have hs:=((hs.p1.drop).p1).drop;exact ⟨_,rfl,hs.fresh⟩
       ·refine aA n8 (aB (v:=.int .i64 (x1).to) bL hs.hb rfl (aZ vw hs (C211 _ l (x1).to (ByteArray.mk #[41]) _ (hL.ext hs.aF) hn) (λ Wk he hs=>cC (aX (λ Ro=>?_) (λ Ro=>?_)))))
        ·refine aA n8 (aB (v:=.int .i64 (x1).to) bL hs.hb rfl (eA Qj (C263 _ l (x1).to 5 _ (hL.ext hs.aF) hk) ?_));rintro _ SB ⟨azx,rfl,cA⟩;have hs:=hs.made cA;obtain ⟨Rp,ala,_⟩:=(hs).eL;subst ala;refine aI (x:=(⟨Rp,((gq l (x1).to 5)).to,((gq l (x1).to 5)).e,((gq l (x1).to 5)).at_⟩:dW)) hs.p3 fW rfl rfl (λ w26 hs=>aD fW hs.At ?_);have hR:r=(⟨((gq l (x1).to 5)).l,((gq l (x1).to 5)).to,((gq l (x1).to 5)).e,((gq l (x1).to 5)).at_⟩:fI):=hrx.trans ((if_neg HA).trans (if_neg (by simpa using Ro)));rw [hR];have hs:=hs.p1.dU (Ψ:=(λ w=>bZ.dr w (⟨Rp,((gq l (x1).to 5)).to,((gq l (x1).to 5)).e,((gq l (x1).to 5)).at_⟩:dW) (⟨((gq l (x1).to 5)).l,((gq l (x1).to 5)).to,((gq l (x1).to 5)).e,((gq l (x1).to 5)).at_⟩:fI))) (λ w h=>⟨_,rfl,ld (h)⟩)
         have hs:=(((hs.p1.drop.p1).drop).p1).drop;exact ⟨_,rfl,hs.fresh⟩
        ·refine aA n8 (aB (v:=.int .i64 (x1).to) bL hs.hb rfl ?_);have vx:=rN (l:=l) (i:=x1.to) (t:=ByteArray.mk #[41]) (by simpa using Ro);refine aO (by omega) (aA n8 (aV hs bL (eK rfl) (rfl) (λ w27 hs=>have hs:=hs.enc (cs':=Flat.enc (⟨xK,((x1).to+1),(x1).e,(x1).at_⟩:dW)) rfl;aD fW hs.At (aI (x:=(⟨xK,((x1).to+1),(x1).e,(x1).at_⟩:dW)) hs.p2 fW rfl rfl (λ w28 hs=>aD fW hs.At ?_)))));have hR:r=(⟨(x1).l,((x1).to+1),(x1).e,(x1).at_⟩:fI):=hrx.trans ((if_neg HA).trans (if_pos (by simpa using Ro)));rw [hR];have hs:=hs.p2.dU (Ψ:=(λ w=>bZ.dr w (⟨xK,((x1).to+1),(x1).e,(x1).at_⟩:dW) (⟨(x1).l,((x1).to+1),(x1).e,(x1).at_⟩:fI))) (λ w h=>⟨_,rfl,ld (h)⟩)
         have hs:=((hs.p1.drop).p1).drop;exact ⟨_,rfl,hs.fresh⟩
      ·have QL:=Mq hr (by omega) ht nh nK nF;refine aQ fH (hL.ext hs.aF) (by omega) ht (λ _ alb=>bT (t).kind lj alb rfl rfl (λ _ alc=>aD bL (alc) (aH (aC (λ Jw=>?_) (λ Jw=>?_)))))
       ·refine aQ fH (hL.ext hs.aF) (by omega) ht (λ _ ald=>bT (t).n q9 ald rfl rfl (λ _ ale=>have hs:=hs.drew;aD bL (ale) (aQ fH (hL.ext hs.aF) (by omega) ht (λ _ alf=>bT (t).at_ lq alf rfl rfl (λ _ NY=>aD bL (NY) (pop (IG _ _ _) (aO (by omega) (bV ([(⟨1,(t).n,(ByteArray.mk #[]),(t).at_⟩:dC)]) hs lX rfl rfl (eK rfl) (λ aj6 w29 hs=>?_)))))))));obtain ⟨Rq,rfl⟩:=(hs).fU;refine pop (yP _ _ _ _) (aI (x:=(⟨Rq,(i+1),0,0⟩:dW)) hs.p1 fW rfl rfl (λ w30 hs=>aD fW hs.At ?_));have hR:r=(⟨[(⟨1,(t).n,(ByteArray.mk #[]),(t).at_⟩:dC)],(i+1),0,0⟩:fI):=QL.trans (if_pos Jw)
        rw [hR];have hs:=hs.p1.freeze.dU (Ψ:=(λ w=>bZ.dr w (⟨Rq,(i+1),0,0⟩:dW) (⟨[(⟨1,(t).n,(ByteArray.mk #[]),(t).at_⟩:dC)],(i+1),0,0⟩:fI))) (λ w h=>⟨_,rfl,DL.fx h⟩);have hs:=(hs.p1).drop;exact ⟨_,rfl,hs.fresh⟩
       ·refine ⟨λ jv w'=>jv = .bool (decide (t.kind=1) && j9 t.text)∧St w bD [cH OA (Flat.enc (⟨⟨none,0,0⟩,0,0,0⟩:dW))] w',?_,?_⟩
        ·refine aQ fH (hL.ext hs.aF) (by omega) ht (λ _ alg=>bT (t).kind lj alg rfl rfl (λ _ alh=>aD bL (alh) (aH (aC (λ yY=>?_) (λ yY=>?_)))))
         ·refine aQ fH (hL.ext hs.aF) (by omega) ht (λ _ ali=>bT (t).text m9 ali rfl rfl (λ _ alj=>aD kn (alj) (aZ tK hs (C161 _ _ (by omega)) (λ w31 he hs=>?_))));exact ⟨vb (by rw [decide_eq_true yY]; rfl),hs⟩
         ·exact ⟨vb (by rw [decide_eq_false yY]; rfl),hs⟩
        ·rintro _ w32 ⟨rfl,hs⟩ G9;refine aX (λ Fa=>?_) (λ Fa=>?_)
         ·refine aQ fH (hL.ext hs.aF) (by omega) ht (λ _ alk=>bT (t).text m9 alk rfl rfl (λ _ alm=>have hs:=hs.drew;aD kn (alm) (aQ fH (hL.ext hs.aF) (by omega) ht (λ _ aln=>bT (t).at_ lq aln rfl rfl (λ _ ES=>aD bL (ES) (pop (IH _ _ _) (aO (by omega) (bV ([(⟨2,0,(t).text,(t).at_⟩:dC)]) hs lX rfl rfl (eK rfl) (λ azy w33 hs=>?_)))))))));obtain ⟨Rr,rfl⟩:=(hs).fU;refine pop (yP _ _ _ _) (aI (x:=(⟨Rr,(i+1),0,0⟩:dW)) hs.p1 fW rfl rfl (λ w34 hs=>aD fW hs.At ?_));have hR:r=(⟨[(⟨2,0,(t).text,(t).at_⟩:dC)],(i+1),0,0⟩:fI):=QL.trans ((if_neg Jw).trans (if_pos Fa))
          rw [hR];have hs:=hs.p1.freeze.dU (Ψ:=(λ w=>bZ.dr w (⟨Rr,(i+1),0,0⟩:dW) (⟨[(⟨2,0,(t).text,(t).at_⟩:dC)],(i+1),0,0⟩:fI))) (λ w h=>⟨_,rfl,DL.fx h⟩);have hs:=(hs.p1).drop;exact ⟨_,rfl,hs.fresh⟩
         ·refine eA Qj (C263 _ l i 5 _ (hL.ext hs.aF) hk) ?_;rintro _ w35 ⟨aur,rfl,cA⟩;have hs:=hs.made cA;obtain ⟨Ms,aef,_⟩:=(hs).eL;subst aef;refine aI (x:=(⟨Ms,((gq l i 5)).to,((gq l i 5)).e,((gq l i 5)).at_⟩:dW)) hs.p1 fW rfl rfl (λ w36 hs=>aD fW hs.At ?_);have hR:r=(⟨((gq l i 5)).l,((gq l i 5)).to,((gq l i 5)).e,((gq l i 5)).at_⟩:fI):=QL.trans ((if_neg Jw).trans (if_neg (by simpa using Fa)));rw [hR];have hs:=hs.p1.dU (Ψ:=(λ w=>bZ.dr w (⟨Ms,((gq l i 5)).to,((gq l i 5)).e,((gq l i 5)).at_⟩:dW) (⟨((gq l i 5)).l,((gq l i 5)).to,((gq l i 5)).e,((gq l i 5)).at_⟩:fI))) (λ w h=>⟨_,rfl,ld (h)⟩)
          have hs:=(hs.p1).drop;exact ⟨_,rfl,hs.fresh⟩
theorem X6 {l:List bF} {i:Int} {R:List dC × Int × Int × Int} (h:vG l i=some R) (hi:¬ i<0):∃ x,Hz l 10000 i 0 0=some x∧
  (if x.e≠0 then some ([],0,x.e,x.at_) else match yS x.l,l[i.toNat]? with
  | some t,some k=>if x.l.length≤10000 then (if 12<t.depth then some ([],0,7,k.at_) else if 40<x.l.length then some ([],0,2,k.at_) else some (x.l,x.to,0,0)) else none
  | _,_=>none)=some R:=by
 unfold vG at h; rw [if_neg hi] at h
 cases hx:Hz l 10000 i 0 0 with
 | none=>rw [hx] at h; cases h
 | some x=>rw [hx] at h; exact ⟨x,rfl,h⟩
theorem O2 {x:fI} {o:Option bF} {R:List dC × Int × Int × Int} (h:(match yS x.l,o with
  | some t,some k=>if x.l.length≤10000 then (if 12<t.depth then some ([],0,7,k.at_) else if 40<x.l.length then some ([],0,2,k.at_) else some (x.l,x.to,0,0)) else none
  | _,_=>none)=some R):∃ t k,yS x.l=some t∧o=some k∧x.l.length≤10000∧(if 12<t.depth then some ([],0,7,k.at_) else if 40<x.l.length then some ([],0,2,k.at_) else some (x.l,x.to,0,0))=some R:=by
 cases he:yS x.l with
 | none=>rw [he] at h; cases h
 | some t=>
  cases o with
  | none=>rw [he] at h; cases h
  | some k=>
   rw [he] at h; dsimp only at h
   split at h
   ·rename_i hl; exact ⟨t,k,rfl,rfl,hl,h⟩
   ·cases h
set_option maxHeartbeats 2000000 in
theorem C235 (l:List bF) (j:Nat) (lv:Value) (i d n:Int) (r:fI) (w:World) (hL:eP (λ _=>True) w lv l) (hk:iD l) (HR:ak6 l (Hz l j)) (h0:0≤i∧i≤l.length) (hd:0≤d∧d≤12) (hnn:0≤n∧n≤5) (hr:Hz l (j+1) i d n=some r):CR 235 [lv,.int .i64 i,.int .i64 d,.int .i64 n] w (λ v w'=>∃ sh:dW,v=Flat.val sh∧lY (eL (λ w=>bZ.dr w sh r)) w w'):=by
 have FR:=hk.n;have hn:l.length≤1000000:=by omega
 have te:=hk.at_;have hs:=St.start w;refine abt _ _ _ _ _ _ ?_;unfold S235;refine aN hs sn (λ By w1 hs=>have hs:=hs.enc (cs':=Flat.enc (⟨⟨none,0,0⟩,0,0,0⟩:dW)) rfl;aH (aC (λ jt=>?_) (λ jt=>?_)))
 ·refine eA afD (C257 l (Hz l j) _ i d r _ (hL.ext hs.aF) hk HR h0 hd (ag7 (by rw [jt] at hr; exact hr))) ?_;rintro _ w2 ⟨OZ,rfl,cA⟩;have hs:=hs.made cA;obtain ⟨AY,O0,_⟩:=(hs).eL;subst O0;refine aI (x:=(⟨AY,(r).to,(r).e,(r).at_⟩:dW)) hs.p1 fW rfl rfl (λ w3 hs=>aD fW hs.At ?_);have hR:r=(⟨(r).l,(r).to,(r).e,(r).at_⟩:fI):=rfl;rw [hR];have hs:=hs.p1.dU (Ψ:=(λ w=>bZ.dr w (⟨AY,(r).to,(r).e,(r).at_⟩:dW) (⟨(r).l,(r).to,(r).e,(r).at_⟩:fI))) (λ w h=>⟨_,rfl,ld (h)⟩);have hs:=(hs.p1).drop;exact ⟨_,rfl,hs.fresh⟩
 ·obtain ⟨x1,hx1,azz⟩:=asi hr jt;refine aO (by omega) (eA Qi ((HR _ i d (n+1) x1 _ (hL.ext hs.aF) hx1 h0 hd (by omega)).1) ?_);rintro _ w4 ⟨azA,rfl,cA⟩;have hs:=hs.made cA;obtain ⟨Jy,alo,_⟩:=(hs).eL;subst alo;refine aN hs sn (λ Eh w5 hs=>have hs:=hs.enc (cs':=Flat.enc (⟨⟨none,0,0⟩,0,0,0⟩:dW)) rfl;aI (x:=(⟨Jy,(x1).to,(x1).e,(x1).at_⟩:dW)) hs fW rfl rfl (λ w6 hs=>?_));have hs:=hs.p2.p2.p2.p1.dU (Ψ:=λ w=>DL w (Flat.val Jy) (x1).l) (λ w h=>ld h);have hs:=hs.p2.p1.p2;refine ⟨λ mm w'=>∃ (x:fI) (g:SV),vF (Hz l j) l d n mm x=some r∧St w bD [cH Eh (Flat.enc (⟨g,(x).to,(x).e,(x).at_⟩:dW)),eL (λ w=>DL w (Flat.val g) (x).l),cH By (Flat.enc (⟨⟨none,0,0⟩,0,0,0⟩:dW))] w',⟨j,x1,Jy,azz,hs⟩,?_⟩
  rintro mm w7 ⟨x,g,Mt,hs⟩ fD;obtain ⟨j2,rfl⟩:=OX Mt;refine aA tY (aB (v:=.int .i64 (x).e) nu hs.hb rfl (aH (aC (λ LY=>?_) (λ LY=>?_))))
  ·have hs:=hs.p2.p2.p2;refine ⟨λ mm o kk w'=>∃ k:Nat,o = .int .i64 (Fx l x.to n k)∧kk = .int .i64 (k:Int)∧mm=(qn n).length - k∧k≤(qn n).length∧St w bD [cH Eh (Flat.enc (⟨g,(x).to,(x).e,(x).at_⟩:dW)),eL (λ w=>DL w (Flat.val g) (x).l),cH By (Flat.enc (⟨⟨none,0,0⟩,0,0,0⟩:dW))] w',⟨_,0,rfl,rfl,rfl,Nat.zero_le _,hs⟩,?_⟩;rintro mm _ _ w8 ⟨k,rfl,rfl,rfl,Lh,hs⟩ jH;have hfl4:=OY n;refine dF UN hs (C258 n _ (by omega)) (λ x31 w9 cA hs=>aJ eh (hs).fF (aR (aC (λ nE=>?_) (λ nE=>?_))))
   ·refine ⟨λ jv w'=>jv = .int .i64 (Fx l x.to n (k+1))∧St w bD [cH Eh (Flat.enc (⟨g,(x).to,(x).e,(x).at_⟩:dW)),eL (λ w=>DL w (Flat.val g) (x).l),cH By (Flat.enc (⟨⟨none,0,0⟩,0,0,0⟩:dW))] w',?_,?_⟩
    ·refine aA n8 (have hs:=hs.drew;aB (v:=.int .i64 (x).to) bL hs.p1.hb rfl (dF UN hs (C258 n _ (by omega)) (λ x40 pP cA hs=>?_)));refine ⟨aG bL (hs.p2.hb.cell rfl),?_⟩;obtain ⟨ag9,Fy⟩:=gx ((qn n)) (i:=((k:Int)).toNat) (by omega);refine dS hs eh (by omega) (by omega) (λ _ asl=>fY hs bL asl Fy ?_);have hfb:=X3 Fy;refine aZ aoH hs (C259 ag9 _ (by omega)) (λ sZ he hs=>?_);refine ⟨aG bL (hs.p2.hb.cell rfl),?_⟩;refine aZ vw hs (C211 _ l (x).to (Mn ag9) _ (hL.ext hs.aF) hn) (λ vy he hs=>aX (λ jR=>?_) (λ jR=>?_))
     ·refine dF UN hs (C258 n _ (by omega)) (λ x47 vz cA hs=>dS hs eh (by omega) (by omega) (λ _ EL=>fY hs bL EL Fy ?_));have hs:=(((((((hs.drop)).drop)).drop).p2).p2).p2;exact ⟨by rw [Hy (k:=k) Fy,if_pos jR] <;> rfl,hs⟩
     ·have hs:=(((((hs.drop)).drop).p2).p2).p2;exact ⟨by rw [Hy (k:=k) Fy,if_neg (by simpa using jR)] <;> rfl,hs⟩
    ·rintro _ su ⟨rfl,hs⟩ oY;refine aO (by omega) ?_;exact ⟨_,by omega,k+1,rfl,rfl,rfl,by omega,hs⟩
   ·have jW:Fx l x.to n k=Jv l x.to n:=by unfold Jv; rw [show k=(qn n).length from by omega]
    refine aH (aC (λ sF=>?_) (λ sF=>?_))
    ·refine aD fW hs.p1.At (aI (x:=(⟨g,(x).to,(x).e,(x).at_⟩:dW)) hs.p3 fW rfl rfl (λ wm hs=>aD fW hs.At ?_));have hR:r=(⟨(x).l,(x).to,(x).e,(x).at_⟩:fI):=X4 (x:=x) Mt (by omega) (by rw [← jW]; exact sF);rw [hR];have hs:=hs.p3.dU (Ψ:=(λ w=>bZ.dr w (⟨g,(x).to,(x).e,(x).at_⟩:dW) (⟨(x).l,(x).to,(x).e,(x).at_⟩:fI))) (λ w h=>⟨_,rfl,id (h)⟩);have hs:=(((hs.p1.drop.p1).drop).p1).drop;exact ⟨_,rfl,hs.fresh⟩
    ·obtain ⟨t,y,h0t,ht,hy,hye,hyn⟩:=X5 Mt (by omega) (by rw [← jW]; exact sF);have Nv:=(List.getElem?_eq_some_iff.1 ht).1;refine aA n8 (aB (v:=.int .i64 (x).to) bL hs.p1.hb rfl (aO (by omega) (aO (by omega) (eA Qi ((HR _ (x.to+1) d (n+1) y _ (hL.ext hs.aF) hy (by omega) hd (by omega)).1) ?_))));rintro _ zq ⟨azC,rfl,cA⟩;have hs:=hs.made cA;obtain ⟨Dl,alp,_⟩:=(hs).eL;subst alp;refine aN hs sn (λ b_y12 CH hs=>have hs:=hs.enc (cs':=Flat.enc (⟨⟨none,0,0⟩,0,0,0⟩:dW)) rfl;aI (x:=(⟨Dl,(y).to,(y).e,(y).at_⟩:dW)) hs fW rfl rfl (λ IN hs=>aA tY (aB (v:=.int .i64 (y).e) nu hs.hb rfl (cR (aC (λ qB=>?_) (λ qB=>?_))))))
     ·refine aD fW hs.At (aI (x:=(⟨Dl,(y).to,(y).e,(y).at_⟩:dW)) hs.p5 fW rfl rfl (λ JQ hs=>aD fW hs.At ?_));have hR:r=(⟨(y).l,(y).to,(y).e,(y).at_⟩:fI):=hye qB;rw [hR];have hs:=hs.p2.dU (Ψ:=(λ w=>bZ.dr w (⟨Dl,(y).to,(y).e,(y).at_⟩:dW) (⟨(y).l,(y).to,(y).e,(y).at_⟩:fI))) (λ w h=>⟨_,rfl,ld (h)⟩);have hs:=(((((hs.p1.drop.p1.drop.p1).drop).p1).drop).p1).drop;exact ⟨_,rfl,hs.fresh⟩
     ·refine aA n8 (aB (v:=.int .i64 (x).to) bL hs.p3.hb rfl (aQ fH (hL.ext hs.aF) (by omega) ht (λ _ LM=>bT (t).at_ lq LM rfl rfl (λ _ asm=>aD bL (asm) (pop (D4 _ _) (bV ([(⟨(Fx l x.to n k),0,(ByteArray.mk #[]),(t).at_⟩:dC)]) hs lX rfl rfl (eK rfl) (λ agd Lc hs=>aA re (aB (v:=Flat.val (g:SV)) mX hs.p4.hb rfl ?_))))))));have NQ:=(hyn (by omega)).1;have alq:=(DL.flat (id (hs.p5).eL));refine cS hs lX alq (by simp; omega) (by decide) (λ aqJ M4 hs=>aA re (aB (v:=Flat.val (Dl:SV)) mX hs.p1.hb rfl ?_));have alr:=(DL.flat (ld (hs.p2).eL))
      refine cS hs lX alr (by simp; omega) (by decide) (λ s_x82 QS hs=>aA n8 (aB (v:=.int .i64 (y).to) bL hs.p1.hb rfl ?_));obtain ⟨Fz,rfl⟩:=(hs).fU;refine pop (yP _ _ _ _) (aI (x:=(⟨Fz,(y).to,0,0⟩:dW)) hs.p4 fW rfl rfl (λ T3 hs=>aH (aC (λ Av=>?_) (λ Av=>?_))))
      ·refine aD fW hs.At (aI (x:=(⟨Fz,(y).to,0,0⟩:dW)) hs.p6 fW rfl rfl (λ Wk hs=>aD fW hs.At ?_));have hR:r=(⟨(([(⟨(Fx l x.to n k),0,(ByteArray.mk #[]),(t).at_⟩:dC)]++(x).l)++(y).l),(y).to,0,0⟩:fI):=((hyn (by omega)).2.1 Av).trans (by rw [← jW]);rw [hR];have hs:=hs.p2.freeze.dU (Ψ:=(λ w=>bZ.dr w (⟨Fz,(y).to,0,0⟩:dW) (⟨(([(⟨(Fx l x.to n k),0,(ByteArray.mk #[]),(t).at_⟩:dC)]++(x).l)++(y).l),(y).to,0,0⟩:fI))) (λ w h=>⟨_,rfl,DL.fx h⟩);have hs:=((((((hs.p1.drop.p1.drop.p1.drop).p1).drop).p1).drop).p1).drop;exact ⟨_,rfl,hs.fresh⟩
      ·have hs:=hs.p1.freeze.dU (Ψ:=λ w=>DL w (Flat.val Fz) ([(⟨Fx l x.to n k,0,ByteArray.mk #[],t.at_⟩:dC)]++x.l++y.l)) (λ w h=>DL.fx h);have hs:=((((hs.p2.drop.p2.drop.p2.drop.p2).drop).p2).p1).p2;have vE:=(hyn (by omega)).2.2 Av;rw [← jW] at vE;exact ⟨_,by omega,⟨_,_,_,_⟩,Fz,vE,hs⟩
  ·refine aD fW hs.At (aI (x:=(⟨g,(x).to,(x).e,(x).at_⟩:dW)) hs.p2 fW rfl rfl (λ SB hs=>aD fW hs.At ?_));have hR:r=(⟨(x).l,(x).to,(x).e,(x).at_⟩:fI):=aed (x:=x) Mt (by omega);rw [hR];have hs:=hs.p2.dU (Ψ:=(λ w=>bZ.dr w (⟨g,(x).to,(x).e,(x).at_⟩:dW) (⟨(x).l,(x).to,(x).e,(x).at_⟩:fI))) (λ w h=>⟨_,rfl,id (h)⟩);have hs:=((hs.p1.drop).p1).drop;exact ⟨_,rfl,hs.fresh⟩
theorem als {l:List bF} (hk:iD l):∀ j,ak6 l (Hz l j)
 | 0=>λ lv i d n r w hL hr=>by cases hr
 | j+1=>λ lv i d n r w hL hr h0 hd hn=>⟨C235 l j lv i d n r w hL hk (als hk j) h0 hd hn hr,λ h5=>by subst h5; exact C257 l (Hz l j) lv i d r w hL hk (als hk j) h0 hd (ag7 hr)⟩
theorem C214 (l:List bF) (lv:Value) (i:Int) (R:List dC × Int × Int × Int) (w:World) (hL:eP (λ _=>True) w lv l) (hk:iD l) (hil:i≤l.length) (hr:vG l i=some R):CR 214 [lv,.int .i64 i] w (λ v w'=>∃ sv:SV,v = .tuple #[Flat.val sv,.int .i64 R.2.1,.int .i64 R.2.2.1,.int .i64 R.2.2.2]∧lY (eL (λ w=>DL w (Flat.val sv) R.1)) w w'):=by
 have FR:=hk.n;have hn:l.length≤1000000:=by omega
 have te:=hk.at_;have hs:=St.start w;refine aa8 _ _ _ _ ?_;unfold S214;refine aR (aC (λ fR=>?_) (λ fR=>?_))
 ·have hR:R=([],0,1,0):=by
   unfold vG at hr; rw [if_pos fR] at hr; exact (Option.some.inj hr).symm
  rw [hR];exact ⟨⟨none,0,0⟩,rfl,(hs.gK (Φ:=λ w=>DL w (Flat.val (⟨none,0,0⟩:SV)) ([]:List dC)) λ w=>DL.nil w).fresh⟩
 ·obtain ⟨x,hx,GF⟩:=X6 hr (by omega);refine eA Qi ((als hk 10000 _ i 0 0 x _ (hL.ext hs.aF) hx (by omega) (by omega) (by omega)).1) ?_;rintro _ w1 ⟨azD,rfl,cA⟩;have hs:=hs.made cA;obtain ⟨xL,alu,_⟩:=(hs).eL;subst alu;refine aN hs sn (λ By w2 hs=>have hs:=hs.enc (cs':=Flat.enc (⟨⟨none,0,0⟩,0,0,0⟩:dW)) rfl;aI (x:=(⟨xL,(x).to,(x).e,(x).at_⟩:dW)) hs fW rfl rfl (λ w3 hs=>aA tY (aB (v:=.int .i64 (x).e) nu hs.hb rfl (cR (aC (λ eE=>?_) (λ eE=>?_))))))
  ·refine aA tY (have hs:=hs.drew;aB (v:=.int .i64 (x).e) nu hs.hb rfl (aA UT (aB (v:=.int .i64 (x).at_) bL hs.hb rfl ?_)))
   have hR:R=([],0,x.e,x.at_):=by
    rw [if_pos eE] at GF; exact (Option.some.inj GF).symm
   rw [hR];exact ⟨⟨none,0,0⟩,rfl,(hs.gK (Φ:=λ w=>DL w (Flat.val (⟨none,0,0⟩:SV)) ([]:List dC)) λ w=>DL.nil w).fresh⟩
  ·rw [if_neg eE] at GF;obtain ⟨tr,tk,htr,Tf,PE,hr3⟩:=O2 GF;have htki:=(List.getElem?_eq_some_iff.1 Tf).1;obtain ⟨hwf,CE⟩:=yT htr;have hAt:JR x.l 0 tr:=⟨by omega,hwf,[],by simpa using CE⟩;refine aA re (aB (v:=Flat.val (xL:SV)) mX hs.hb rfl (aZ UI hs (C162 _ x.l 0 tr (tr.size+1) _ (DL.flat (ld (hs.p1).eL)) (by omega) hAt (by omega)) (λ w4 he hs=>dB (aC (λ iq=>?_) (λ iq=>?_)))))
   ·refine aQ fH (hL.ext hs.aF) (by omega) Tf (λ _ wx=>bT (tk).at_ lq wx rfl rfl (λ _ wB=>have hs:=hs.drew;aD bL (wB) ?_))
    have hR:R=([],0,7,tk.at_):=by
     rw [if_pos iq] at hr3; exact (Option.some.inj hr3).symm
    rw [hR];exact ⟨⟨none,0,0⟩,rfl,(hs.gK (Φ:=λ w=>DL w (Flat.val (⟨none,0,0⟩:SV)) ([]:List dC)) λ w=>DL.nil w).fresh⟩
   ·refine aA re (aB (v:=Flat.val (xL:SV)) mX hs.hb rfl (aJ lX (DL.flat (ld (hs.p1).eL)) (dB (aC (λ nE=>?_) (λ nE=>?_)))))
    ·refine aQ fH (hL.ext hs.aF) (by omega) Tf (λ _ uf=>bT (tk).at_ lq uf rfl rfl (λ _ Aj=>have hs:=hs.drew;aD bL (Aj) ?_))
     have hR:R=([],0,2,tk.at_):=by
      rw [if_neg iq,if_pos (by omega)] at hr3; exact (Option.some.inj hr3).symm
     rw [hR];exact ⟨⟨none,0,0⟩,rfl,(hs.gK (Φ:=λ w=>DL w (Flat.val (⟨none,0,0⟩:SV)) ([]:List dC)) λ w=>DL.nil w).fresh⟩
    ·refine aA re (have hs:=hs.drew;aB (v:=Flat.val (xL:SV)) mX hs.hb rfl (aA n8 (aB (v:=.int .i64 (x).to) bL hs.hb rfl ?_)));have hs:=hs.p1.dU (Ψ:=λ w=>DL w (Flat.val xL) x.l) (λ w h=>ld h)
     have hR:R=(x.l,x.to,0,0):=by
      rw [if_neg iq,if_neg (by omega)] at hr3; exact (Option.some.inj hr3).symm
     rw [hR];exact ⟨xL,rfl,hs.fresh⟩
end Go.Proofs.YtnjcingfdhjfkaaGreat

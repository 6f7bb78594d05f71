/-
  What the proof needs, part 6.
-/
import Derived.Test.YtnjcingfdhjfkaaGreatVaM5
set_option linter.all false
namespace Go.Proofs.YtnjcingfdhjfkaaGreat
open Go.Fw
theorem OB (m:gr) (i:Nat) (t:fF):(tD m i t).length≤1+t.buf.length:=by
 have:=Hr t.buf
 unfold tD; split <;> simp <;> omega
theorem wT {m:gr} (h:qG m):∀ k,(kZ m k).length≤k * 1001
 | 0=>by simp [kZ]
 | k+1=>by
  have ih:=wT h k
  cases ht:m.l[k]? with
  | none=>
   have e:kZ m (k+1)=kZ m k:=by unfold kZ; rw [List.range_succ,List.flatMap_append]; simp [ht]
   rw [e]; exact Nat.le_trans ih (Nat.mul_le_mul_right 1001 (Nat.le_succ k))
  | some t=>
   rw [AM ht,List.length_append]
   have:=OB m k t
   have:=(h.th t (List.mem_of_getElem? ht)).bl
   omega
def nM (m:gr) (i:Int):List Int:=if 0≤i then (match m.l[i.toNat]? with | some t=>t.aN | none=>[]) else []
def zi (m:gr) (i:Int):List bJ:=if 0≤i then (match m.l[i.toNat]? with | some t=>t.buf | none=>[]) else []
theorem Xw {m:gr} {i:Int} {t:fF} (h0:0≤i) (h:m.l[i.toNat]? = some t):nM m i=t.aN:=by unfold nM; rw [if_pos h0,h]
theorem ad7 {m:gr} {i:Int} {t:fF} (h0:0≤i) (h:m.l[i.toNat]? = some t):zi m i=t.buf:=by unfold zi; rw [if_pos h0,h]
theorem SS {m:gr} {i:Int} (h:i<0∨m.l.length≤i):nM m i=[]:=by
 unfold nM; split
 ·rw [List.getElem?_eq_none (by omega)]
 ·rfl
theorem Xx {m:gr} {i:Int} (h:i<0∨m.l.length≤i):zi m i=[]:=by
 unfold zi; split
 ·rw [List.getElem?_eq_none (by omega)]
 ·rfl
def ad8:List Int→Int→Int
 | [],n=>n
 | c::cs,n=>ad8 cs (rq (rq (n * 10000)+c))
def yB (l:List Int) (k:Nat):Int:=ad8 (l.take k) 0
theorem Hs:∀ (l:List Int) (c n:Int),ad8 (l++[c]) n=rq (rq (ad8 l n * 10000)+c)
 | [],_,_=>rfl
 | x::l,c,n=>Hs l c _
theorem OC {l:List Int} {k:Nat} {c:Int} (h:l[k]? = some c):yB l (k+1)=rq (rq (yB l k * 10000)+c):=by
 unfold yB; rw [List.take_add_one,h]; exact Hs _ _ _
def jE (p q:ej):Bool:=decide (q.kind=p.kind) && decide (q.t=p.t) && decide (q.i=p.i) && decide (p.cut.length=0)
def pk3 (s:SV):cX:=⟨3,0,0,s⟩
theorem ad9 {w:World} {ss:List SV} {cs:List (List Int)} (h:iB ss cs w):iB (ss.map pk3) (cs.map λ c=>(⟨3,0,0,c⟩:ej)) w:=by
 refine ⟨by simp [h.1],λ i t x a b=>?_⟩
 rw [List.getElem?_map] at a b
 cases hs:ss[i]? with
 | none=>rw [hs] at a; cases a
 | some s=>
  cases hc:cs[i]? with
  | none=>rw [hc] at b; cases b
  | some c=>
   rw [hs] at a; rw [hc] at b
   simp at a b; subst a b
   exact ⟨s,rfl,h.2 i s c hs hc⟩
theorem C16 (K:World→Prop) (p:Nat) (m:gr) (w:World) (hm:Has (en K p m) w) (hw:K w) (uN:∀ w',Ext w w'→K w') (lX:qG m):CR 16 [(.pointer (some ⟨p,0,none⟩))] w (λ v w'=>lW (fo v (cJ m)) w w'):=by
 obtain ⟨a,hr⟩:=en.rd hm hw;have Za:=hr.b.cell (o:=8) rfl;have cm0:=hr.b.cell (o:=0) rfl;have Xv:=hr.b.cell (o:=1) rfl;have cm3:=hr.b.cell (o:=3) rfl;have cm9:=hr.b.cell (o:=9) rfl;have BO:=hr.b.cell (o:=10) rfl;have CF:=hr.b.cell (o:=11) rfl;have yg:=hr.b.cell (o:=12) rfl;have Fi:=hr.b.cell (o:=13) rfl;have zh:=hr.b.cell (o:=14) rfl;have Fj:=hr.b.cell (o:=15) rfl;have hs:=St.start w;refine ahw _ _ _ ?_;unfold S16;refine aF (aA n8 (cD bN (zh.ext hs.aE) (cO (aC (λ j1=>?_) (λ j1=>?_)))))
 ·have hpm:cJ m=[]:=by unfold cJ; rw [if_pos j1]
  rw [hpm];exact hs.xX.fresh
 ·refine aF (aA jl (cD pI (yg.ext hs.aE) (aK qx (hr.ll.ext hs.aE) ?_)));have hs:=hs.xX (α:=ej);refine ⟨λ mm o x w1=>∃ k:Nat,x = .int .i64 (k:Int)∧mm=a.ps.length - k∧k≤a.ps.length∧St w bD [fo o (kZ m k)] w1,⟨_,0,rfl,rfl,Nat.zero_le _,hs⟩,?_⟩;rintro mm fW _ w1 ⟨k,rfl,rfl,hk,hs⟩ fz;refine aR (aC (λ fy=>?_) (λ fy=>?_))
  ·obtain ⟨Xy,vu⟩:=gx (a.ps) (i:=((k:Int)).toNat) (by omega);refine aQ qx hr.ll (by omega) vu (λ _ wL=>?_);obtain ⟨t,ht⟩:∃ t,m.l[k]? = some t:=⟨_,List.getElem?_eq_getElem (by have:=hr.len; omega)⟩;have CE:=List.mem_of_getElem? ht;have yQ:=(lX.th t CE).bl;have vz:=wT lX k;have QK:=Hr t.buf;have KW:=hr.len;have Nk:=lX.tl;refine aD zQ (wL.ext hs.aE) ?_;refine ⟨λ o w'=>St w bD [fo o (kZ m k++(if BN m t=true then [(⟨1,(k:Int),0,[]⟩:ej)] else []))] w',?_,?_⟩
   ·refine aZ avd hs (C56 K p m Xy.b t _ (hm.ext hs.aE) (uN _ hs.aE) (λ w2 e=>uN _ (Ext.trans hs.aE e)) lX ((hr.th k _ _ vu ht).ext hs.aE) CE) (λ w2 he hs=>aY (λ fD=>?_) (λ fD=>?_))
    ·refine pop (GJ _ _) (have hs:=hs.gH (Φ:=(λ w=>cA.dr w (⟨1,(k:Int),0,⟨none,0,0⟩⟩:cX) (⟨1,(k:Int),0,[]⟩:ej))) (λ w=>⟨_,rfl,DL.nil _⟩);eM (s:=(⟨1,(k:Int),0,⟨none,0,0⟩⟩:cX)) (x:=(⟨1,(k:Int),0,[]⟩:ej)) hs nZ (by decide) (λ af4 w3 hs=>have hs:=hs.p1;ee hs nZ (by simp; omega) (by decide) (λ s_x30 w4 hs=>?_)));rw [fD,if_pos rfl];exact hs
    ·rw [fD,if_neg (by decide),List.append_nil];exact hs
   ·intro nq w5 hs jB;obtain ⟨bp,gl,rg,cn,_,oG,hB,BB,Y9⟩:=eI.rd (hr.th k _ _ vu ht);have Xu:=oG.cell (o:=0) rfl;have ct5:=oG.cell (o:=5) rfl;have ct6:=oG.cell (o:=6) rfl;refine aF (aA mY (cD rh (Xu.ext hs.aE) (cZ ave hs (C57 bp _ _ _ (hB.ext hs.aE) (by omega)) (λ x35 w6 bV hs=>?_))));have hxx:=trivial;refine aK ek (hs).fB ?_;have hs:=hs.p1.p1;refine ⟨λ mm o x w1=>∃ j:Nat,x = .int .i64 (j:Int)∧mm=(Az t.buf).length - j∧j≤(Az t.buf).length∧St w bD [bK x35 (Az t.buf),fo o ((kZ m k++(if BN m t=true then [(⟨1,(k:Int),0,[]⟩:ej)] else []))++((Az t.buf).take j).map λ i=>(⟨2,(k:Int),i,[]⟩:ej))] w1,⟨_,0,rfl,rfl,Nat.zero_le _,by simpa using hs⟩,?_⟩
    rintro mm Na _ w7 ⟨j,rfl,rfl,hj,hs⟩ oN;refine aR (aC (λ mi=>?_) (λ mi=>?_))
    ·obtain ⟨qF,ql⟩:=gx ((Az t.buf)) (i:=((j:Int)).toNat) (by omega);refine dU hs ek (by omega) (by omega) (λ _ uo=>gk hs bN uo ql (pop (KC _ _ _) (have hs:=hs.gH (Φ:=(λ w=>cA.dr w (⟨2,(k:Int),qF,⟨none,0,0⟩⟩:cX) (⟨2,(k:Int),qF,[]⟩:ej))) (λ w=>⟨_,rfl,DL.nil _⟩);eM (s:=(⟨2,(k:Int),qF,⟨none,0,0⟩⟩:cX)) (x:=(⟨2,(k:Int),qF,[]⟩:ej)) hs nZ (by decide) (λ WK w8 hs=>have hs:=hs.p2;ee hs nZ (by simp only [List.length_append,List.length_map,List.length_take,List.length_singleton]; split <;> simp <;> omega) (by decide) (λ aq0 w9 hs=>aO (by omega) ?_)))))
     have hs:=hs.p1;refine ⟨_,by omega,j+1,rfl,rfl,by omega,?_⟩;rw [List.append_assoc,iU (k:=j) ql] at hs;exact hs
    ·refine aO (by omega) ?_;have hs:=(hs).drop;refine ⟨_,by omega,k+1,rfl,rfl,by omega,?_⟩;rw [AM ht];unfold tD;rw [List.take_of_length_le (by omega),List.append_assoc] at hs;exact hs
  ·have hpm:cJ m=kZ m a.ps.length:=by unfold cJ; rw [if_neg j1,hr.len]
   rw [hpm,show a.ps.length=k from by omega];exact hs.fresh
theorem C31 (K:World→Prop) (p:Nat) (m:gr) (w:World) (hm:Has (en K p m) w) (hw:K w) (uN:∀ w',Ext w w'→K w') (lX:qG m) (hb:MB m.mem 1000000) (hC:(fO (I9 m.mem)).length≤1000000000):CR 31 [(.pointer (some ⟨p,0,none⟩))] w (λ v w'=>lW (fo v (rQ m)) w w'):=by
 obtain ⟨a,hr⟩:=en.rd hm hw;have Za:=hr.b.cell (o:=8) rfl;have cm0:=hr.b.cell (o:=0) rfl;have Xv:=hr.b.cell (o:=1) rfl;have cm3:=hr.b.cell (o:=3) rfl;have cm9:=hr.b.cell (o:=9) rfl;have BO:=hr.b.cell (o:=10) rfl;have CF:=hr.b.cell (o:=11) rfl;have yg:=hr.b.cell (o:=12) rfl;have Fi:=hr.b.cell (o:=13) rfl;have zh:=hr.b.cell (o:=14) rfl;have Fj:=hr.b.cell (o:=15) rfl;have hs:=St.start w;refine ahI _ _ _ ?_;unfold S31;refine aF (aA n8 (cD bN (zh.ext hs.aE) (cO (aC (λ fH=>?_) (λ fH=>?_)))))
 ·have hpm:rQ m=[]:=by unfold rQ; rw [if_pos fH]
  rw [hpm];exact hs.xX.fresh
 ·refine aF (aA jM (cD so (BO.ext hs.aE) (ed avq (C82 a.q m.mem _ (hr.mem.ext hs.aE) lX.mem hb hC) ?_)));rintro x15 w1 bV;have hs:=hs.made bV;obtain ⟨ss,hs⟩:=hs.yt;have hsl:=hs.aiQ;have hdl:=Q6 (uE m.mem) (fO (I9 m.mem));have MR:(Hl m.mem).length=(MQ (uE m.mem) (fO (I9 m.mem))).1.length:=rfl;refine aK yn (hs).fB ?_;have hs:=(((hs.fU (α:=cX)).p2).p2).p2;refine ⟨λ mm o x w1=>∃ k:Nat,x = .int .i64 (k:Int)∧mm=ss.length - k∧k≤ss.length∧St w bD [bK o ((ss.take k).map pk3),bK x15 ss,eB (iB ss (Hl m.mem))] w1,⟨_,0,rfl,rfl,Nat.zero_le _,hs⟩,?_⟩;rintro mm fW _ w2 ⟨k,rfl,rfl,hk,hs⟩ fz
  refine aR (aC (λ gd=>?_) (λ gd=>?_))
  ·obtain ⟨iJ,fj⟩:=gx (ss) (i:=((k:Int)).toNat) (by omega);refine dU hs.p1 yn (by omega) (by omega) (λ _ ju=>gk hs.p1 eA ju fj (pop (v:=Flat.val (pk3 iJ)) (GK _ _ _ _) (bX ([pk3 iJ]) hs nZ rfl rfl (eL rfl) (λ s_x24 w3 hs=>?_))));have wK:=(hs).fB;refine cP hs.p1 nZ wK (by simp; omega) (by decide) (λ aqk w4 hs=>have hs:=hs.p1.drop;aO (by omega) ?_);have hs:=hs.p2.p2.p2;exact ⟨_,by omega,k+1,rfl,rfl,by omega,by rw [← iU (k:=k) fj]; exact hs⟩
  ·have hs:=(hs.p1.drop).p1;have hpm:rQ m=(Hl m.mem).map λ c=>(⟨3,0,0,c⟩:ej):=by unfold rQ; rw [if_neg fH]
   rw [List.take_of_length_le (by omega)] at hs;rw [hpm];exact (St.D3 (hs.dO (λ w h=>ad9 h)).p1).fresh
theorem C59 (cv:Value) (cut:List Int) (w:World) (hC:eE (λ _=>True) w cv cut) (akD:cut.length≤1000000):CR 59 [cv] w (λ v w'=>v = .int .i64 (yB cut cut.length)∧Ext w w'):=by
 have hs:=St.start w;refine ah8 _ _ _ ?_;unfold S59;refine aK ek (hC.ext hs.aE) ?_;refine ⟨λ mm n x w1=>∃ k:Nat,n = .int .i64 (yB cut k)∧x = .int .i64 (k:Int)∧mm=cut.length - k∧k≤cut.length∧St w bD [] w1,⟨_,0,rfl,rfl,rfl,Nat.zero_le _,hs⟩,?_⟩;rintro mm _ _ w1 ⟨k,rfl,rfl,rfl,hk,hs⟩ fz;refine aR (aC (λ gw=>?_) (λ gw=>?_))
 ·obtain ⟨e_x10,Xz⟩:=gx (cut) (i:=((k:Int)).toNat) (by omega);refine aQ ek hC (by omega) Xz (λ _ qE=>aD bN (qE.ext hs.aE) (KK (KJ (aO (by omega) ?_))));exact ⟨_,by omega,k+1,by rw [OC (k:=k) Xz],rfl,rfl,by omega,hs⟩
 ·exact ⟨by rw [show cut.length=k from by omega],hs.aE⟩
theorem C60 (q x:ej) (qv:cX) (b:Nat) (xv:cX) (w:World) (hq:cA.dr w qv q) (hx:At (λ _=>True) w (.pointer (some ⟨b,0,none⟩)) xv) (hxd:cA.dr w xv x):CR 60 [Flat.val qv,(.pointer (some ⟨b,0,none⟩))] w (λ v w'=>v = .bool (jE x q)∧Ext w w'):=by
 obtain ⟨Q7,rfl,aea⟩:=hq;obtain ⟨aeb,rfl,aec⟩:=hxd;have hs:=St.start w;refine ah9 _ _ _ _ ?_;unfold S60;refine dE hs (λ ayR w1 hs=>?_);refine ⟨λ jv w'=>jv = .bool (jE x q)∧St w bD [cE ayR (Flat.enc (⟨(q).kind,(q).t,(q).i,Q7⟩:cX))] w',?_,?_⟩
 ·refine aA pw (aB (v:=.int .i64 ((q).kind)) bN hs.hb rfl (bT (x).kind pw hx rfl rfl (λ _ ayS=>aD bN (ayS.ext hs.aE) (aH (aC (λ gp=>?_) (λ gp=>?_))))))
  ·refine aA jy (aB (v:=.int .i64 ((q).t)) bN hs.hb rfl (bT (x).t jy hx rfl rfl (λ _ arK=>aD bN (arK.ext hs.aE) (aH (aC (λ gI=>?_) (λ gI=>?_))))))
   ·refine aA xm (aB (v:=.int .i64 ((q).i)) bN hs.hb rfl (bT (x).i xm hx rfl rfl (λ _ ju=>aD bN (ju.ext hs.aE) (aH (aC (λ gv=>?_) (λ gv=>?_))))))
    ·refine bT aeb sn hx rfl rfl (λ _ wu=>aD eA (wu.ext hs.aE) ?_);have arL:=DL.flat (aec);refine aK ek (arL.ext hs.aE) (aH ?_);exact ⟨vb (by unfold jE; first | (simp_all; done) | grind),hs⟩
    ·exact ⟨vb (by unfold jE; first | (simp_all; done) | grind),hs⟩
   ·exact ⟨vb (by unfold jE; first | (simp_all; done) | grind),hs⟩
  ·exact ⟨vb (by unfold jE; first | (simp_all; done) | grind),hs⟩
 ·rintro _ w2 ⟨rfl,hs⟩ fz;exact ⟨rfl,hs.drop.aE⟩
theorem C126 (sv fv:Value) (xs:List ej) (φ:ej→Prop) (g:ej→Bool) (w:World) (hL:DL w sv xs) (hf:oo PG w fv φ g) (hφ:∀ x∈xs,φ x) (hn:xs.length≤1073741824):CR 126 [sv,fv] w (λ v w'=>v = .int .i64 (va g xs)∧Ext w w'):=by
 obtain ⟨g0,first,cap,rfl,vz,lY⟩:=hf;have hs:=St.start w;refine ZZ _ _ _ _ ?_;unfold S126;obtain ⟨arM,agV,agW⟩:=(hL).open;have hn127:=agW.1;refine aK nZ (agV.ext hs.aE) ?_;refine ⟨λ m x w1=>∃ k:Nat,x = .int .i64 (k:Int)∧m=xs.length - k∧k≤xs.length∧(∀ y∈xs.take k,g y=false)∧St w bD [] w1,⟨_,0,rfl,rfl,Nat.zero_le _,by simp,hs⟩,?_⟩;rintro m _ w1 ⟨k,rfl,rfl,hk,fS,hs⟩ fz;refine aR (aC (λ gw=>?_) (λ gw=>?_))
 ·obtain ⟨jr,dG⟩:=gx arM (i:=((k:Int)).toNat) (by omega);obtain ⟨Cd,jX⟩:=gx (xs) (i:=((k:Int)).toNat) (by omega);obtain ⟨SU,rfl,SW⟩:=agW.2 _ _ _ dG jX;refine aQ nZ agV (by omega) dG (λ _ iS=>aD lf (iS.ext hs.aE) (ga vz (lY _ Cd w1 hs.aE ⟨SU,rfl,(SW.ext hs.aE)⟩ (hφ _ (List.mem_of_getElem? jX))) ?_));rintro _ w2 ⟨rfl,he⟩;have hs:=hs.ext he;refine aY (λ eF=>?_) (λ eF=>?_)
  ·exact ⟨congrArg (Value.int .i64) (py fS jX eF).symm,hs.aE⟩
  ·refine aO (by omega) ?_;exact ⟨_,by omega,k+1,rfl,rfl,by omega,eH fS jX eF,hs⟩
 ·exact ⟨congrArg (Value.int .i64) (ky (by rw [List.take_of_length_le (by omega)] at fS; exact fS)).symm,hs.aE⟩
theorem C61 (sv fv:Value) (xs:List ej) (φ:ej→Prop) (g:ej→Bool) (w:World) (hL:DL w sv xs) (hf:oo PG w fv φ g) (hφ:∀ x∈xs,φ x) (hn:xs.length≤1073741824):CR 61 [sv,fv] w (λ v w'=>v = .bool (xs.any g)∧Ext w w'):=by
 have hs:=St.start w;refine aia _ _ _ _ ?_;unfold S61;refine aZ anE hs (C126 _ _ _ _ _ _ (hL.ext hs.aE) (hf.ext hs.aE) hφ (by omega)) (λ w1 he hs=>dH ?_);exact ⟨vb (oq _ _),hs.aE⟩
theorem C22 (K:World→Prop) (p:Nat) (m:gr) (w:World) (hm:Has (en K p m) w) (hw:K w) (uN:∀ w',Ext w w'→K w') (lX:qG m):CR 22 [(.pointer (some ⟨p,0,none⟩))] w (λ v w'=>lW (bK v m.mem.l) w w'):=by
 obtain ⟨a,hr⟩:=en.rd hm hw;have Za:=hr.b.cell (o:=8) rfl;have cm0:=hr.b.cell (o:=0) rfl;have Xv:=hr.b.cell (o:=1) rfl;have cm3:=hr.b.cell (o:=3) rfl;have cm9:=hr.b.cell (o:=9) rfl;have BO:=hr.b.cell (o:=10) rfl;have CF:=hr.b.cell (o:=11) rfl;have yg:=hr.b.cell (o:=12) rfl;have Fi:=hr.b.cell (o:=13) rfl;have zh:=hr.b.cell (o:=14) rfl;have Fj:=hr.b.cell (o:=15) rfl;have hs:=St.start w;refine ahC _ _ _ ?_;unfold S22;refine aF (aA jM (cD so (BO.ext hs.aE) (cZ air hs (C72 a.q m.mem _ (hr.mem.ext hs.aE) lX.mem) (λ x7 w1 bV hs=>?_))));exact hs.fresh
theorem C23 (K:World→Prop) (p:Nat) (m:gr) (w:World) (hm:Has (en K p m) w) (hw:K w) (uN:∀ w',Ext w w'→K w') (lX:qG m):CR 23 [(.pointer (some ⟨p,0,none⟩))] w (λ v w'=>lW (bK v m.mem.kept) w w'):=by
 obtain ⟨a,hr⟩:=en.rd hm hw;have Za:=hr.b.cell (o:=8) rfl;have cm0:=hr.b.cell (o:=0) rfl;have Xv:=hr.b.cell (o:=1) rfl;have cm3:=hr.b.cell (o:=3) rfl;have cm9:=hr.b.cell (o:=9) rfl;have BO:=hr.b.cell (o:=10) rfl;have CF:=hr.b.cell (o:=11) rfl;have yg:=hr.b.cell (o:=12) rfl;have Fi:=hr.b.cell (o:=13) rfl;have zh:=hr.b.cell (o:=14) rfl;have Fj:=hr.b.cell (o:=15) rfl;have hs:=St.start w;refine ahD _ _ _ ?_;unfold S23;refine aF (aA jM (cD so (BO.ext hs.aE) (cZ Us hs (C73 a.q m.mem _ (hr.mem.ext hs.aE) lX.mem) (λ x7 w1 bV hs=>?_))));exact hs.fresh
theorem C25 (K:World→Prop) (p:Nat) (m:gr) (i:Int) (w:World) (hm:Has (en K p m) w) (hw:K w) (uN:∀ w',Ext w w'→K w') (lX:qG m) (Zb:∀ t∈m.l,t.aN.length≤1000000):CR 25 [(.pointer (some ⟨p,0,none⟩)),.int .i64 i] w (λ v w'=>lW (bK v (nM m i)) w w'):=by
 obtain ⟨a,hr⟩:=en.rd hm hw;have Za:=hr.b.cell (o:=8) rfl;have cm0:=hr.b.cell (o:=0) rfl;have Xv:=hr.b.cell (o:=1) rfl;have cm3:=hr.b.cell (o:=3) rfl;have cm9:=hr.b.cell (o:=9) rfl;have BO:=hr.b.cell (o:=10) rfl;have CF:=hr.b.cell (o:=11) rfl;have yg:=hr.b.cell (o:=12) rfl;have Fi:=hr.b.cell (o:=13) rfl;have zh:=hr.b.cell (o:=14) rfl;have Fj:=hr.b.cell (o:=15) rfl;have hs:=St.start w;refine ahF _ _ _ _ ?_;unfold S25;refine ⟨λ jv w'=>jv = .bool (decide (i<0∨a.ps.length≤i))∧w=w',?_,?_⟩
 ·refine aR (aC (λ oJ=>?_) (λ oJ=>?_))
  ·exact ⟨M9 (by omega),rfl⟩
  ·refine aF (aA jl (cD pI (yg.ext hs.aE) (aK qx (hr.ll.ext hs.aE) (dH ?_))));exact ⟨vX (by omega),rfl⟩
 ·rintro _ w1 ⟨rfl,hw⟩ fz;subst hw;refine aC (λ js=>?_) (λ js=>?_)
  ·rw [SS (by have:=hr.len; omega)];exact (hs.fU (α:=Int)).fresh
  ·refine aF (aA jl (cD pI (yg.ext hs.aE) ?_));obtain ⟨Xy,vu⟩:=gx (a.ps) (i:=(i).toNat) (by omega);refine aQ qx hr.ll (by omega) vu (λ _ wL=>aD zQ (wL.ext hs.aE) ?_);obtain ⟨t,ht⟩:∃ t,m.l[i.toNat]? = some t:=⟨_,List.getElem?_eq_getElem (by have:=hr.len; omega)⟩;have yQ:=(lX.th t (List.mem_of_getElem? ht)).bl;have arN:=(lX.th t (List.mem_of_getElem? ht)).rg;obtain ⟨bp,gl,rg,cn,_,oG,hB,BB,Y9⟩:=eI.rd (hr.th i.toNat _ _ vu ht);have Xu:=oG.cell (o:=0) rfl;have ct5:=oG.cell (o:=5) rfl;have ct6:=oG.cell (o:=6) rfl;refine aF (aA pJ (cD eA (ct5.ext hs.aE) (cZ zG hs (C70 _ _ _ (BB.ext hs.aE) (Zb t (List.mem_of_getElem? ht))) (λ x26 w2 bV hs=>?_))))
   rw [Xw (by omega) ht];exact hs.fresh
theorem C35 (K:World→Prop) (p:Nat) (m:gr) (i:Int) (w:World) (hm:Has (en K p m) w) (hw:K w) (uN:∀ w',Ext w w'→K w') (lX:qG m):CR 35 [(.pointer (some ⟨p,0,none⟩)),.int .i64 i] w (λ v w'=>lW (bK v (zi m i)) w w'):=by
 obtain ⟨a,hr⟩:=en.rd hm hw;have Za:=hr.b.cell (o:=8) rfl;have cm0:=hr.b.cell (o:=0) rfl;have Xv:=hr.b.cell (o:=1) rfl;have cm3:=hr.b.cell (o:=3) rfl;have cm9:=hr.b.cell (o:=9) rfl;have BO:=hr.b.cell (o:=10) rfl;have CF:=hr.b.cell (o:=11) rfl;have yg:=hr.b.cell (o:=12) rfl;have Fi:=hr.b.cell (o:=13) rfl;have zh:=hr.b.cell (o:=14) rfl;have Fj:=hr.b.cell (o:=15) rfl;have hs:=St.start w;refine ahJ _ _ _ _ ?_;unfold S35;refine ⟨λ jv w'=>jv = .bool (decide (i<0∨a.ps.length≤i))∧w=w',?_,?_⟩
 ·refine aR (aC (λ oJ=>?_) (λ oJ=>?_))
  ·exact ⟨M9 (by omega),rfl⟩
  ·refine aF (aA jl (cD pI (yg.ext hs.aE) (aK qx (hr.ll.ext hs.aE) (dH ?_))));exact ⟨vX (by omega),rfl⟩
 ·rintro _ w1 ⟨rfl,hw⟩ fz;subst hw;refine aC (λ js=>?_) (λ js=>?_)
  ·rw [Xx (by have:=hr.len; omega)];exact (hs.fU (α:=bJ)).fresh
  ·refine aF (aA jl (cD pI (yg.ext hs.aE) ?_));obtain ⟨Xy,vu⟩:=gx (a.ps) (i:=(i).toNat) (by omega);refine aQ qx hr.ll (by omega) vu (λ _ wL=>aD zQ (wL.ext hs.aE) ?_);obtain ⟨t,ht⟩:∃ t,m.l[i.toNat]? = some t:=⟨_,List.getElem?_eq_getElem (by have:=hr.len; omega)⟩;have yQ:=(lX.th t (List.mem_of_getElem? ht)).bl;have arN:=(lX.th t (List.mem_of_getElem? ht)).rg;obtain ⟨bp,gl,rg,cn,_,oG,hB,BB,Y9⟩:=eI.rd (hr.th i.toNat _ _ vu ht);have Xu:=oG.cell (o:=0) rfl;have ct5:=oG.cell (o:=5) rfl;have ct6:=oG.cell (o:=6) rfl;refine aF (aA mY (cD rh (Xu.ext hs.aE) (cZ aiE hs (C91 bp _ _ _ (hB.ext hs.aE) (by omega)) (λ x26 w2 bV hs=>?_))))
   rw [ad7 (by omega) ht];exact hs.fresh
def qa (m:Mem) (c:Int):Int:=if Ou m c=true then m.l.getD c.toNat 0 else 0
def Ht (m:gr) (t:fF) (x:aW):Int:=if (rM t.buf x.b).isSome=true then (rM t.buf x.b).getD 0 else qa m.mem x.b
def loadT (m:gr) (t:fF) (x:aW):fF:={t with aN:=t.aN.set x.a.toNat (Ht m t x)}
def L5 (m:gr) (t:fF) (x:aW):cQ:=⟨if (rM t.buf x.b).isSome=true then 2 else 1,0,x.b,Ht m t x,0⟩
def uF (m:gr) (t:fF) (x:aW):bJ:=if x.kind=3 then ⟨3,m.u.lines.getD x.b.toNat 0,x.b,t.e⟩ else ⟨x.kind,x.b,0,0⟩
def vI (m:gr) (t:fF) (x:aW):fF:={t with buf:=wP m.room t.buf (uF m t x)}
def zj (k:Int):Int:=if k=3 then 3 else if k=5 then 4 else if k=6 then 5 else if k=7 then 6 else 0
def Ci (m:gr) (t:fF) (x:aW):cQ:=⟨zj x.kind,0,x.b,(uF m t x).n,0⟩
def casT (m:gr) (t:fF) (x:aW):fF:={t with aN:=t.aN.set x.a.toNat (qa m.mem x.b)}
def BP (m:gr) (t:fF) (x:aW):gr:=if qa m.mem x.b=t.e then {m with mem:=iO m.mem x.b t.f} else m
def OD (m:gr) (t:fF) (x:aW):cQ:=if qa m.mem x.b=t.e then ⟨8,0,x.b,qa m.mem x.b,t.f⟩ else ⟨9,0,x.b,qa m.mem x.b,0⟩
def yC (m:gr) (i:Int) (x:aW):gr:={m with locks:=m.locks.set x.b.toNat i}
def uG (m:gr) (i:Int) (x:aW):gr:=if m.locks.getD x.b.toNat 0=i then {m with locks:=m.locks.set x.b.toNat (-1)} else {m with fault:=3,mv:=i}
def Fk (m:gr) (i:Int) (x:aW):cQ:=if m.locks.getD x.b.toNat 0=i then ⟨11,0,x.b,0,0⟩ else ⟨16,0,3,0,0⟩
def dV (m:gr) (t:fF) (i:Int) (x:aW):gr × fF × cQ:=
 if x.kind=2 then (m,loadT m t x,L5 m t x)
 else if x.kind=4 then (BP m t x,casT m t x,OD m t x)
 else if x.kind=8 then (m,t,⟨7,0,0,0,0⟩)
 else if x.kind=9 then (yC m i x,t,⟨10,0,x.b,0,0⟩)
 else if x.kind=10 then (uG m i x,t,Fk m i x)
 else (m,vI m t x,Ci m t x)
theorem agX (p:Nat) (m:Mem) (c:Int) (w:World) (hm:vr w p m) (hk:xD m):CR 195 [.pointer (some ⟨p,0,none⟩),.int .i64 c] w (λ v w'=>v = .tuple #[.int .i64 (qa m c),.int .i64 (if Ou m c=true then 0 else 1)]∧Ext w w'):=C195 p m c w hm hk
theorem BQ (m:Mem) (c n:Int):(iO m c n).of=m.of:=by unfold iO; split <;> rfl
theorem tG (m:Mem) (c n:Int):(iO m c n).dF=m.dF:=by unfold iO; split <;> rfl
theorem Q8 (m:Mem) (c:Int):(vQ m c).of=m.of:=by unfold vQ; split <;> rfl
theorem Cj (m:Mem) (c:Int):(vQ m c).dF=m.dF:=by unfold vQ; split <;> rfl
theorem uC.write {ov fv:Value} {m:Mem} {w:World} {c n:Int} (h:uC ov fv m w):uC ov fv (iO m c n) w:=by unfold uC; rw [BQ,tG]; exact h
theorem uC.out {ov fv:Value} {m:Mem} {w:World} {c:Int} (h:uC ov fv m w):uC ov fv (vQ m c) w:=by unfold uC; rw [Q8,Cj]; exact h
theorem C130 (K:World→Prop) (p:Nat) (m:gr) (n:Nat) (tp:Ptr) (t:fF) (i:Int) (x:aW) (ge gf:SV) (F:Nat→Prop) (w:World) (hF:(sep (eI K tp.b m.room t) (kG K p m n tp)).p w F) (hK:∀ w',iE F w w'→K w') (yQ:t.buf.length≤1000) (JJ:xD m.mem) (tL:MB m.mem 1000000) (hxa:0≤x.a∧x.a<t.aN.length):CR 130 [(.pointer (some ⟨p,0,none⟩)),(.pointer (some ⟨tp.b,0,none⟩)),.int .i64 i,Flat.val (⟨x.kind,x.a,x.b,ge,gf,x.to⟩:bU)] w (λ v w'=>v=Flat.val (L5 m t x)∧qz F (sep (eI K tp.b m.room (loadT m t x)) (kG K p (m) n tp)) w w'):=by
 have hs:=(St.begin hF).split;obtain ⟨bp,gl,rg,cn,qT,hs⟩:=eI.open hs;obtain ⟨a,hx,hs⟩:=kG.open hs.p4;refine Z3 _ _ _ _ _ _ ?_;unfold S130;refine dE (x:=(⟨x.kind,x.a,x.b,ge,gf,x.to⟩:bU)) hs (λ Bs w1 hs=>aJ hs km (λ Bq w2 hs=>aF (aA mY (have hs:=hs.drew;aB rh hs.p7.hb rfl (aA eZ (aB (v:=.int .i64 x.b) bN hs.p1.hb rfl (aZ an8 hs (C194 bp x.b m.room t.buf _ (QY hs.p8) (by omega)) (λ w3 he hs=>bE rfl (bE rfl ?_)))))))));refine ⟨_,?_,λ _ _ _ h=>h⟩;refine bZ (aY (λ iT=>?_) (λ iT=>?_))
 ·refine aF (aA jM (have hs:=hs.drew;aB so hs.p2.hb rfl (aA eZ (aB (v:=.int .i64 x.b) bN hs.p1.hb rfl (aZ afv hs (agX a.q m.mem x.b _ (I6 hs.p3 (hx.1.mem _ (hK _ hs.aE))) JJ) (λ w4 he hs=>bE rfl (bE rfl ?_)))))));intro fz;refine aF (aA pJ (have hs:=hs.drew;aB eA hs.p7.hb rfl (aA ko (aB (v:=.int .i64 x.a) bN hs.p1.hb rfl ?_))));obtain ⟨agz,I5⟩:=gx (t.aN) (i:=(x.a).toNat) (by omega);refine dU hs.p9 ek (by omega) (by omega) (λ arO Ej=>lK _ hs.p9 bN Ej (by omega) (λ w6 hs=>aA eZ (aB (v:=.int .i64 x.b) bN hs.p2.hb rfl (pop (pO _ _ _) (aI (x:=(⟨1,0,x.b,(qa m.mem x.b),0⟩:cQ)) hs.p1 eW rfl rfl (λ w7 hs=>aD eW hs.At ?_))))))
  have hn:Ht m t x=(qa m.mem x.b):=by unfold Ht; rw [if_neg (by simpa using iT)]
  have hk:(if (rM t.buf x.b).isSome=true then (2:Int) else 1)=1:=by rw [if_neg (by simpa using iT)]
  have hs:=eI.shut (room:=m.room) (t:=(⟨t.code,t.at_,((t.aN).set (x.a).toNat (qa m.mem x.b)),t.counts,t.fault,t.e,t.f,t.buf⟩:fF)) qT hs.qY.p2.qY.qY;have hs:=((kG.shut (m:=m) (⟨⟨hx.1.ln,hx.1.cl,hx.1.rc,hx.1.mem⟩,hx.2⟩) hs.p7.p7.p7.p7.p7).p2).drop;have hs:=(hs.p2.drop).p1;refine ⟨?_,?_⟩
  ·unfold L5; rw [hn,hk]
  ·rw [show loadT m t x=(⟨t.code,t.at_,((t.aN).set (x.a).toNat (qa m.mem x.b)),t.counts,t.fault,t.e,t.f,t.buf⟩:fF) from by unfold loadT; rw [hn]]; exact (St.join hs).mut
 ·intro fz;refine aF (aA pJ (have hs:=hs.drew;aB eA hs.p7.hb rfl (aA ko (aB (v:=.int .i64 x.a) bN hs.p1.hb rfl ?_))));obtain ⟨agz,I5⟩:=gx (t.aN) (i:=(x.a).toNat) (by omega);refine dU hs.p9 ek (by omega) (by omega) (λ arO Ej=>lK _ hs.p9 bN Ej (by omega) (λ w6 hs=>aA eZ (aB (v:=.int .i64 x.b) bN hs.p2.hb rfl (pop (pO _ _ _) (aI (x:=(⟨2,0,x.b,((rM t.buf x.b).getD 0),0⟩:cQ)) hs.p1 eW rfl rfl (λ w7 hs=>aD eW hs.At ?_))))));have hn:Ht m t x=((rM t.buf x.b).getD 0):=by unfold Ht; rw [if_pos (by simpa using iT)]
  have hk:(if (rM t.buf x.b).isSome=true then (2:Int) else 1)=2:=by rw [if_pos (by simpa using iT)]
  have hs:=eI.shut (room:=m.room) (t:=(⟨t.code,t.at_,((t.aN).set (x.a).toNat ((rM t.buf x.b).getD 0)),t.counts,t.fault,t.e,t.f,t.buf⟩:fF)) qT hs.qY.p2.qY.qY;have hs:=((kG.shut (m:=m) (⟨⟨hx.1.ln,hx.1.cl,hx.1.rc,hx.1.mem⟩,hx.2⟩) hs.p7.p7.p7.p7.p7).p2).drop;have hs:=(hs.p2.drop).p1;refine ⟨?_,?_⟩
  ·unfold L5; rw [hn,hk]
  ·rw [show loadT m t x=(⟨t.code,t.at_,((t.aN).set (x.a).toNat ((rM t.buf x.b).getD 0)),t.counts,t.fault,t.e,t.f,t.buf⟩:fF) from by unfold loadT; rw [hn]]; exact (St.join hs).mut
theorem C132 (K:World→Prop) (p:Nat) (m:gr) (n:Nat) (tp:Ptr) (t:fF) (i:Int) (x:aW) (ge gf:SV) (F:Nat→Prop) (w:World) (hF:(sep (eI K tp.b m.room t) (kG K p m n tp)).p w F) (hK:∀ w',iE F w w'→K w') (yQ:t.buf.length≤1000) (JJ:xD m.mem) (tL:MB m.mem 1000000) (hxa:0≤x.a∧x.a<t.aN.length):CR 132 [(.pointer (some ⟨p,0,none⟩)),(.pointer (some ⟨tp.b,0,none⟩)),.int .i64 i,Flat.val (⟨x.kind,x.a,x.b,ge,gf,x.to⟩:bU)] w (λ v w'=>v=Flat.val (OD m t x)∧qz F (sep (eI K tp.b m.room (casT m t x)) (kG K p (BP m t x) n tp)) w w'):=by
 have hs:=(St.begin hF).split;obtain ⟨bp,gl,rg,cn,qT,hs⟩:=eI.open hs;obtain ⟨a,hx,hs⟩:=kG.open hs.p4;refine Z5 _ _ _ _ _ _ ?_;unfold S132;refine dE (x:=(⟨x.kind,x.a,x.b,ge,gf,x.to⟩:bU)) hs (λ Bs w1 hs=>aJ hs km (λ Bq w2 hs=>aF (aA jM (have hs:=hs.drew;aB so hs.p2.hb rfl (aA eZ (aB (v:=.int .i64 x.b) bN hs.p1.hb rfl (aZ afv hs (agX a.q m.mem x.b _ (I6 hs.p3 (hx.1.mem _ (hK _ hs.aE))) JJ) (λ w3 he hs=>bE rfl (bE rfl (aF (aA pJ (have hs:=hs.drew;aB eA hs.p7.hb rfl ?_))))))))))));refine aA ko (aB (v:=.int .i64 x.a) bN hs.p1.hb rfl ?_)
 obtain ⟨yw,yV⟩:=gx (t.aN) (i:=(x.a).toNat) (by omega);refine dU hs.p9 ek (by omega) (by omega) (λ _ wC=>lK _ hs.p9 bN wC (by omega) (λ w4 hs=>aF (aA tW (aB bN hs.p8.hb rfl (cO (aC (λ iI=>?_) (λ iI=>?_)))))))
 ·refine aA eZ (aB (v:=.int .i64 x.b) bN hs.p2.hb rfl (pop (pO _ _ _) (aI (x:=(⟨9,0,x.b,(qa m.mem x.b),0⟩:cQ)) hs.p1 eW rfl rfl (λ w5 hs=>aD eW hs.At ?_))));have MR:BP m t x=m:=by unfold BP; rw [if_neg iI]
  have hce:OD m t x=⟨9,0,x.b,qa m.mem x.b,0⟩:=by unfold OD; rw [if_neg iI]
  have hs:=eI.shut (room:=m.room) (t:=(⟨t.code,t.at_,((t.aN).set (x.a).toNat (qa m.mem x.b)),t.counts,t.fault,t.e,t.f,t.buf⟩:fF)) qT hs.qY.p2.qY.qY;have hs:=kG.shut (m:=m) (⟨⟨hx.1.ln,hx.1.cl,hx.1.rc,λ w hw=>by first | exact hx.1.mem w hw | exact (hx.1.mem w hw).write⟩,hx.2⟩) hs.p7.p7.p7.p7.p7;have hs:=((hs.p2.drop.p2).drop).p1;refine ⟨?_,?_⟩
  ·rw [hce]; try rfl
  ·rw [MR]; exact (St.join hs).mut
 ·refine aF (aA jM (have hs:=hs.drew;aB so hs.p3.hb rfl (aA eZ (aB (v:=.int .i64 x.b) bN hs.p2.hb rfl (aF (aA DK (aB bN hs.p8.hb rfl (bH Uw hs.p4 (H':=λ _=>fV a.q a.ov a.fv (iO m.mem x.b t.f)) (Φ:=λ _ _=>True) (λ F2 eQ ey=>?_) ?_))))))))
  ·exact (C128 a.q a.ov a.fv m.mem F2 x.b _ _ eQ (λ w' hc=>hx.1.mem _ (hK w' (ey w' hc).aE)) JJ tL).mono λ _ _ r=>r.mono λ _ _ h=>⟨trivial,h.2⟩
  rintro _ w6 _ hs;refine aA eZ (have hs:=hs.drew;aB (v:=.int .i64 x.b) bN hs.p3.hb rfl (aF (aA DK (aB bN hs.p8.hb rfl (pop (FY _ _ _ _) (aI (x:=(⟨8,0,x.b,(qa m.mem x.b),t.f⟩:cQ)) hs.p2 eW rfl rfl (λ w7 hs=>aD eW hs.At ?_)))))));have MR:BP m t x={m with mem:=iO m.mem x.b t.f}:=by unfold BP; rw [if_pos (by simpa using iI)]
  have hce:OD m t x=⟨8,0,x.b,qa m.mem x.b,t.f⟩:=by unfold OD; rw [if_pos (by simpa using iI)]
  have hs:=eI.shut (room:=m.room) (t:=(⟨t.code,t.at_,((t.aN).set (x.a).toNat (qa m.mem x.b)),t.counts,t.fault,t.e,t.f,t.buf⟩:fF)) qT hs.qY.p3.qY.qY;have hs:=kG.shut (m:={m with mem:=iO m.mem x.b t.f}) (⟨⟨hx.1.ln,hx.1.cl,hx.1.rc,λ w hw=>by first | exact hx.1.mem w hw | exact (hx.1.mem w hw).write⟩,hx.2⟩) hs.p7.p7.p7.p5.p7;have hs:=((hs.p2.drop.p2).drop).p1;refine ⟨?_,?_⟩
  ·rw [hce]; try rfl
  ·rw [MR]; exact (St.join hs).mut
theorem C133 (K:World→Prop) (p:Nat) (m:gr) (n:Nat) (tp:Ptr) (t:fF) (i:Int) (x:aW) (ge gf:SV) (F:Nat→Prop) (w:World) (hF:(sep (eI K tp.b m.room t) (kG K p m n tp)).p w F) (hK:∀ w',iE F w w'→K w') (yQ:t.buf.length≤1000) (JJ:xD m.mem) (tL:MB m.mem 1000000):CR 133 [(.pointer (some ⟨p,0,none⟩)),(.pointer (some ⟨tp.b,0,none⟩)),.int .i64 i,Flat.val (⟨x.kind,x.a,x.b,ge,gf,x.to⟩:bU)] w (λ v w'=>v=Flat.val ((⟨7,0,0,0,0⟩:cQ))∧qz F (sep (eI K tp.b m.room (t)) (kG K p (m) n tp)) w w'):=by
 have hs:=(St.begin hF).split;obtain ⟨bp,gl,rg,cn,qT,hs⟩:=eI.open hs;obtain ⟨a,hx,hs⟩:=kG.open hs.p4;refine Z6 _ _ _ _ _ _ ?_;unfold S133;refine dE (x:=(⟨x.kind,x.a,x.b,ge,gf,x.to⟩:bU)) hs (λ Bs w1 hs=>aJ hs km (λ Bq w2 hs=>pop (ab9 _) (aI (x:=(⟨7,0,0,0,0⟩:cQ)) hs eW rfl rfl (λ w3 hs=>aD eW hs.At ?_))));have hs:=eI.shut (room:=m.room) (t:=(⟨t.code,t.at_,t.aN,t.counts,t.fault,t.e,t.f,t.buf⟩:fF)) qT hs.qY.qY.qY.qY;have hs:=((kG.shut (m:=m) (⟨⟨hx.1.ln,hx.1.cl,hx.1.rc,hx.1.mem⟩,hx.2⟩) hs.p7.p7.p7.p7.p7).p2).drop;have hs:=(hs.p2.drop).p1;refine ⟨?_,?_⟩
 ·rfl
 ·skip; exact (St.join hs).mut
theorem C134 (K:World→Prop) (p:Nat) (m:gr) (n:Nat) (tp:Ptr) (t:fF) (i:Int) (x:aW) (ge gf:SV) (F:Nat→Prop) (w:World) (hF:(sep (eI K tp.b m.room t) (kG K p m n tp)).p w F) (hK:∀ w',iE F w w'→K w') (yQ:t.buf.length≤1000) (JJ:xD m.mem) (tL:MB m.mem 1000000) (hxb:0≤x.b∧x.b<m.locks.length):CR 134 [(.pointer (some ⟨p,0,none⟩)),(.pointer (some ⟨tp.b,0,none⟩)),.int .i64 i,Flat.val (⟨x.kind,x.a,x.b,ge,gf,x.to⟩:bU)] w (λ v w'=>v=Flat.val ((⟨10,0,x.b,0,0⟩:cQ))∧qz F (sep (eI K tp.b m.room (t)) (kG K p (yC m i x) n tp)) w w'):=by
 have hs:=(St.begin hF).split;obtain ⟨bp,gl,rg,cn,qT,hs⟩:=eI.open hs;obtain ⟨a,hx,hs⟩:=kG.open hs.p4;refine Z7 _ _ _ _ _ _ ?_;unfold S134;refine dE (x:=(⟨x.kind,x.a,x.b,ge,gf,x.to⟩:bU)) hs (λ Bs w1 hs=>aJ hs km (λ Bq w2 hs=>aF (aA n7 (have hs:=hs.drew;aB eA hs.p2.hb rfl (aA eZ (aB (v:=.int .i64 x.b) bN hs.p1.hb rfl ?_))))));obtain ⟨G4,kT⟩:=gx (m.locks) (i:=(x.b).toNat) (by omega);refine dU hs.p4 ek (by omega) (by omega) (λ _ ug=>lK _ hs.p4 bN ug (by omega) (λ w3 hs=>aA eZ (aB (v:=.int .i64 x.b) bN hs.p2.hb rfl (pop (Bm _ _) (aI (x:=(⟨10,0,x.b,0,0⟩:cQ)) hs.p1 eW rfl rfl (λ w4 hs=>aD eW hs.At ?_))))))
 have hs:=eI.shut (room:=m.room) (t:=(⟨t.code,t.at_,t.aN,t.counts,t.fault,t.e,t.f,t.buf⟩:fF)) qT hs.qY.qY.qY.qY;have hs:=kG.shut (m:=(yC m i x)) (⟨⟨hx.1.ln,hx.1.cl,hx.1.rc,hx.1.mem⟩,hx.2⟩) hs.p7.p7.p4.p7.p7;have hs:=((hs.p2.drop.p2).drop).p1;refine ⟨?_,?_⟩
 ·rfl
 ·skip; exact (St.join hs).mut
theorem C135 (K:World→Prop) (p:Nat) (m:gr) (n:Nat) (tp:Ptr) (t:fF) (i:Int) (x:aW) (ge gf:SV) (F:Nat→Prop) (w:World) (hF:(sep (eI K tp.b m.room t) (kG K p m n tp)).p w F) (hK:∀ w',iE F w w'→K w') (yQ:t.buf.length≤1000) (JJ:xD m.mem) (tL:MB m.mem 1000000) (hxb:0≤x.b∧x.b<m.locks.length):CR 135 [(.pointer (some ⟨p,0,none⟩)),(.pointer (some ⟨tp.b,0,none⟩)),.int .i64 i,Flat.val (⟨x.kind,x.a,x.b,ge,gf,x.to⟩:bU)] w (λ v w'=>v=Flat.val (Fk m i x)∧qz F (sep (eI K tp.b m.room (t)) (kG K p (uG m i x) n tp)) w w'):=by
 have hs:=(St.begin hF).split;obtain ⟨bp,gl,rg,cn,qT,hs⟩:=eI.open hs;obtain ⟨a,hx,hs⟩:=kG.open hs.p4;refine Z8 _ _ _ _ _ _ ?_;unfold S135;refine dE (x:=(⟨x.kind,x.a,x.b,ge,gf,x.to⟩:bU)) hs (λ Bs w1 hs=>aJ hs km (λ Bq w2 hs=>aF (aA n7 (have hs:=hs.drew;aB eA hs.p2.hb rfl (aA eZ (aB (v:=.int .i64 x.b) bN hs.p1.hb rfl ?_))))));obtain ⟨pS,jW⟩:=gx (m.locks) (i:=(x.b).toNat) (by omega);refine dU hs.p4 ek (by omega) (by omega) (λ _ rz=>gk hs.p4 bN rz jW (cO (aC (λ gd=>?_) (λ gd=>?_))))
 ·refine aF (aA n8 (aV hs.p2 bN (eL rfl) (rfl) (λ w3 hs=>aF (aA DJ (aV hs bN (eL rfl) (rfl) (λ w4 hs=>pop (Bm _ _) (aI (x:=(⟨16,0,3,0,0⟩:cQ)) hs.p1 eW rfl rfl (λ w5 hs=>aD eW hs.At ?_))))))));have hgd:m.locks.getD x.b.toNat 0=pS:=by rw [List.getD_eq_getElem?_getD,jW]; rfl
  have hgm:uG m i x={m with fault:=3,mv:=i}:=by unfold uG; rw [hgd,if_neg gd]
  have Ij:Fk m i x=⟨16,0,3,0,0⟩:=by unfold Fk; rw [hgd,if_neg gd]
  have hs:=eI.shut (room:=m.room) (t:=(⟨t.code,t.at_,t.aN,t.counts,t.fault,t.e,t.f,t.buf⟩:fF)) qT hs.qY.qY.qY.qY;have hs:=kG.shut (m:={m with fault:=3,mv:=i}) (⟨⟨hx.1.ln,hx.1.cl,hx.1.rc,hx.1.mem⟩,hx.2⟩) hs.p7.p7.p7.p7.p6;have hs:=((hs.p2.drop.p2).drop).p1;refine ⟨?_,?_⟩
  ·rw [Ij]; try rfl
  ·rw [hgm]; exact (St.join hs).mut
 ·refine aF (aA n7 (have hs:=hs.drew;aB eA hs.p2.hb rfl (aA eZ (aB (v:=.int .i64 x.b) bN hs.p1.hb rfl (dU hs.p4 ek (by omega) (by omega) (λ _ An=>lK _ hs.p4 bN An (by omega) (λ w6 hs=>aA eZ (aB (v:=.int .i64 x.b) bN hs.p2.hb rfl (pop (Bm _ _) (aI (x:=(⟨11,0,x.b,0,0⟩:cQ)) hs.p1 eW rfl rfl (λ w7 hs=>aD eW hs.At ?_)))))))))));have hgd:m.locks.getD x.b.toNat 0=pS:=by rw [List.getD_eq_getElem?_getD,jW]; rfl
  have hgm:uG m i x={m with locks:=m.locks.set x.b.toNat (-1)}:=by unfold uG; rw [hgd,if_pos (by simpa using gd)]
  have Ij:Fk m i x=⟨11,0,x.b,0,0⟩:=by unfold Fk; rw [hgd,if_pos (by simpa using gd)]
  have hs:=eI.shut (room:=m.room) (t:=(⟨t.code,t.at_,t.aN,t.counts,t.fault,t.e,t.f,t.buf⟩:fF)) qT hs.qY.qY.qY.qY;have hs:=kG.shut (m:={m with locks:=m.locks.set x.b.toNat (-1)}) (⟨⟨hx.1.ln,hx.1.cl,hx.1.rc,hx.1.mem⟩,hx.2⟩) hs.p7.p7.p4.p7.p7;have hs:=((hs.p2.drop.p2).drop).p1;refine ⟨?_,?_⟩
  ·rw [Ij]; try rfl
  ·rw [hgm]; exact (St.join hs).mut
theorem C131 (K:World→Prop) (p:Nat) (m:gr) (n:Nat) (tp:Ptr) (t:fF) (i:Int) (x:aW) (ge gf:SV) (F:Nat→Prop) (w:World) (hF:(sep (eI K tp.b m.room t) (kG K p m n tp)).p w F) (hK:∀ w',iE F w w'→K w') (yQ:t.buf.length≤1000) (JJ:xD m.mem) (tL:MB m.mem 1000000) (hkd:x.kind=3∨x.kind=5∨x.kind=6∨x.kind=7) (Pz:x.kind=3→0≤x.b∧x.b<m.u.lines.length):CR 131 [(.pointer (some ⟨p,0,none⟩)),(.pointer (some ⟨tp.b,0,none⟩)),.int .i64 i,Flat.val (⟨x.kind,x.a,x.b,ge,gf,x.to⟩:bU)] w (λ v w'=>v=Flat.val (Ci m t x)∧qz F (sep (eI K tp.b m.room (vI m t x)) (kG K p (m) n tp)) w w'):=by
 have hs:=(St.begin hF).split;obtain ⟨bp,gl,rg,cn,qT,hs⟩:=eI.open hs;obtain ⟨a,hx,hs⟩:=kG.open hs.p4;refine Z4 _ _ _ _ _ _ ?_;unfold S131;refine dE (x:=(⟨x.kind,x.a,x.b,ge,gf,x.to⟩:bU)) hs (λ Bs w1 hs=>aJ hs km (λ Bq w2 hs=>wQ hs (λ V7 w3 hs=>ib hs Tryz.underlying272 oU (by decide) (λ w4 hs=>ib hs Tryz.underlying272 oU (by decide) (λ w5 hs=>ib hs Tryz.underlying272 oU (by decide) (λ w6 hs=>ib hs Tryz.underlying272 oU (by decide) (λ w7 hs=>aA jm (aB (v:=.int .i64 x.kind) bN hs.p2.hb rfl (aA eZ (aB (v:=.int .i64 x.b) bN hs.p2.hb rfl (pop (Np _ _) (aJ hs uX (λ b_y10 w8 hs=>?_)))))))))))))
 refine aI (x:=(⟨x.kind,x.b,0,0⟩:bJ)) hs kq rfl rfl (λ w9 hs=>?_);refine ⟨_,?_,λ _ h=>h⟩;refine aA jm (aB (v:=.int .i64 x.kind) bN hs.p3.hb rfl (aH (aC (λ jD=>?_) (λ jD=>?_))))
 ·have hxb:=Pz jD;refine aF (aA tU (aA mD (have hs:=hs.drew;aB eA hs.p4.hb rfl (aA eZ (aB (v:=.int .i64 x.b) bN hs.p3.hb rfl ?_)))));obtain ⟨yw,yV⟩:=gx (m.u.lines) (i:=(x.b).toNat) (by omega);refine aQ ek (hx.1.ln _ (hK _ hs.aE)) (by omega) yV (λ _ wC=>aD bN (wC) (aA eZ (aB (v:=.int .i64 x.b) bN hs.p3.hb rfl (aF (aA tW (aB bN hs.p9.hb rfl (aA lg (aV hs bN (eL rfl) (rfl) (λ pP hs=>?_)))))))));have hs:=hs.enc (cs':=Flat.enc ({ (⟨x.kind,x.b,0,0⟩:bJ) with line:=yw}:bJ)) rfl;refine ⟨aG bN (hs.p3.hb.cell rfl),?_⟩
  refine ⟨aG bN (hs.p9.hb.cell rfl),?_⟩;refine aA oa (aV hs bN (eL rfl) (rfl) (λ sB hs=>?_));have hs:=hs.enc (cs':=Flat.enc ({ ({ (⟨x.kind,x.b,0,0⟩:bJ) with line:=yw}:bJ) with cell:=x.b}:bJ)) rfl;refine ⟨aG bN (hs.p9.hb.cell rfl),?_⟩;refine aA mZ (aV hs bN (eL rfl) (rfl) (λ u7 hs=>?_));have hs:=hs.enc (cs':=Flat.enc ({ ({ ({ (⟨x.kind,x.b,0,0⟩:bJ) with line:=yw}:bJ) with cell:=x.b}:bJ) with n:=t.e}:bJ)) rfl;intro fz;refine aF (aA mY (have hs:=hs.drew;aB rh hs.p9.hb rfl ?_));have hpy:uF m t x=({ ({ ({ (⟨x.kind,x.b,0,0⟩:bJ) with line:=yw}:bJ) with cell:=x.b}:bJ) with n:=t.e}:bJ):=by unfold uF; rw [if_pos jD,List.getD_eq_getElem?_getD,yV,← jD]; rfl
  refine aD kq hs.At (bH afw hs.qY (H':=λ _=>nQ bp m.room (wP m.room t.buf (uF m t x))) (Φ:=λ _ _=>True) (λ F2 eQ ey=>?_) ?_)
  ·rw [hpy]; exact (C196 bp m.room t.buf ({ ({ ({ (⟨x.kind,x.b,0,0⟩:bJ) with line:=yw}:bJ) with cell:=x.b}:bJ) with n:=t.e}:bJ) F2 _ eQ (by omega)).mono λ _ _ r=>r.mono λ _ _ h=>⟨trivial,h.2⟩
  rintro _ r9 _ hs;refine aA jm (aB (v:=.int .i64 x.kind) bN hs.p4.hb rfl ?_)
  have MM:(Go.Fw.look [3,5,6,7] [Value.int .i64 3,.int .i64 4,.int .i64 5,.int .i64 6] x.kind).getD (.int .i64 0) = .int .i64 (zj x.kind):=by
   have hk4:=hkd
   rcases hk4 with h | h | h | h <;> rw [h] <;> rfl
  refine ⟨_,pe hs.p2.AD Tryz.underlying272 oU B2,?_⟩;rw [show (Go.Fw.look ([]++[3]++[5]++[6]++[7]) ([]++[Value.int .i64 3]++[Value.int .i64 4]++[Value.int .i64 5]++[Value.int .i64 6]) x.kind).getD (.int .i64 0) = .int .i64 (zj x.kind) from MM];refine aA eZ (aB (v:=.int .i64 x.b) bN hs.p4.hb rfl (aA mZ (aB (v:=.int .i64 ((({ ({ ({ (⟨x.kind,x.b,0,0⟩:bJ) with line:=yw}:bJ) with cell:=x.b}:bJ) with n:=t.e}:bJ)).n)) bN hs.p1.hb rfl (pop (pO _ _ _) (aI (x:=(⟨(zj x.kind),0,x.b,(({ ({ ({ (⟨x.kind,x.b,0,0⟩:bJ) with line:=yw}:bJ) with cell:=x.b}:bJ) with n:=t.e}:bJ)).n,0⟩:cQ)) hs.p3 eW rfl rfl (λ vT hs=>aD eW hs.At ?_))))))
  have hs:=eI.shut (room:=m.room) (t:=(⟨t.code,t.at_,t.aN,t.counts,t.fault,t.e,t.f,(wP m.room t.buf (uF m t x))⟩:fF)) qT hs.p12.p12.p3.p12;have hs:=((kG.shut (m:=m) (⟨⟨hx.1.ln,hx.1.cl,hx.1.rc,hx.1.mem⟩,hx.2⟩) hs.p9.p9.p9.p9.p9).p2).drop;have hs:=(((hs.p2.drop.p2.drop).p2).drop).p1;refine ⟨?_,?_⟩
  ·unfold Ci; rw [hpy]
  ·rw [show vI m t x=(⟨t.code,t.at_,t.aN,t.counts,t.fault,t.e,t.f,(wP m.room t.buf (uF m t x))⟩:fF) from rfl]; exact (St.join hs).mut
 ·intro fz;refine aF (aA mY (have hs:=hs.drew;aB rh hs.p9.hb rfl ?_));have hpy:uF m t x=(⟨x.kind,x.b,0,0⟩:bJ):=by unfold uF; rw [if_neg jD]
  refine aD kq hs.At (bH afw hs.qY (H':=λ _=>nQ bp m.room (wP m.room t.buf (uF m t x))) (Φ:=λ _ _=>True) (λ F2 eQ ey=>?_) ?_)
  ·rw [hpy]; exact (C196 bp m.room t.buf (⟨x.kind,x.b,0,0⟩:bJ) F2 _ eQ (by omega)).mono λ _ _ r=>r.mono λ _ _ h=>⟨trivial,h.2⟩
  rintro _ r9 _ hs;refine aA jm (aB (v:=.int .i64 x.kind) bN hs.p4.hb rfl ?_)
  have MM:(Go.Fw.look [3,5,6,7] [Value.int .i64 3,.int .i64 4,.int .i64 5,.int .i64 6] x.kind).getD (.int .i64 0) = .int .i64 (zj x.kind):=by
   have hk4:=hkd
   rcases hk4 with h | h | h | h <;> rw [h] <;> rfl
  refine ⟨_,pe hs.p2.AD Tryz.underlying272 oU B2,?_⟩;rw [show (Go.Fw.look ([]++[3]++[5]++[6]++[7]) ([]++[Value.int .i64 3]++[Value.int .i64 4]++[Value.int .i64 5]++[Value.int .i64 6]) x.kind).getD (.int .i64 0) = .int .i64 (zj x.kind) from MM];refine aA eZ (aB (v:=.int .i64 x.b) bN hs.p4.hb rfl (aA mZ (aB (v:=.int .i64 (((⟨x.kind,x.b,0,0⟩:bJ)).n)) bN hs.p1.hb rfl (pop (pO _ _ _) (aI (x:=(⟨(zj x.kind),0,x.b,((⟨x.kind,x.b,0,0⟩:bJ)).n,0⟩:cQ)) hs.p3 eW rfl rfl (λ vT hs=>aD eW hs.At ?_))))));have hs:=eI.shut (room:=m.room) (t:=(⟨t.code,t.at_,t.aN,t.counts,t.fault,t.e,t.f,(wP m.room t.buf (uF m t x))⟩:fF)) qT hs.p12.p12.p3.p12
  have hs:=((kG.shut (m:=m) (⟨⟨hx.1.ln,hx.1.cl,hx.1.rc,hx.1.mem⟩,hx.2⟩) hs.p9.p9.p9.p9.p9).p2).drop;have hs:=(((hs.p2.drop.p2.drop).p2).drop).p1;refine ⟨?_,?_⟩
  ·unfold Ci; rw [hpy]
  ·rw [show vI m t x=(⟨t.code,t.at_,t.aN,t.counts,t.fault,t.e,t.f,(wP m.room t.buf (uF m t x))⟩:fF) from rfl]; exact (St.join hs).mut
def ic (m:Mem) (x:bJ):Mem:=if x.kind=3 then iO m x.cell x.n else if x.kind=7 then m else vQ m x.line
def ph (t:Int) (x:bJ):cQ:=if x.kind=3 then ⟨12,t,x.cell,x.n,0⟩ else if x.kind=7 then ⟨14,t,0,0,0⟩ else ⟨13,t,x.line,0,0⟩
def mw (m:gr) (t:fF) (p:ej):gr:={m with mem:=ic m.mem (eh t.buf p.i),l:=m.l.set p.t.toNat {t with buf:=mq t.buf p.i}}
section
variable {m:gr} {t:fF} {i:Int} {x:aW}
theorem xE:(dV m t i x).1.room=m.room:=by
 unfold dV BP yC uG; repeat' split
 all_goals rfl
theorem BR:(dV m t i x).1.l=m.l:=by
 unfold dV BP yC uG; repeat' split
 all_goals rfl
theorem OE:(dV m t i x).1.u=m.u:=by
 unfold dV BP yC uG; repeat' split
 all_goals rfl
theorem C7:(dV m t i x).2.1.at_=t.at_:=by
 unfold dV loadT casT vI; repeat' split
 all_goals rfl
theorem qU:(dV m t i x).2.1.code=t.code:=by
 unfold dV loadT casT vI; repeat' split
 all_goals rfl
theorem XA {room:Int} {l:List bJ} {y:bJ}:(wP room l y).length≤l.length∨((wP room l y).length:Int)≤room:=by
 unfold wP; split
 ·rename_i h; right; simp; omega
 ·left; exact Nat.le_refl _
theorem Q9 (h:Ho t) (hr:m.room≤16):Ho (dV m t i x).2.1:=by
 have h1:=h.rg; have h2:=h.cn; have h3:=h.TS; have h4:=h.bl
 have h5:=XA (room:=m.room) (l:=t.buf) (y:=uF m t x)
 unfold dV loadT casT vI
 repeat' split
 all_goals first
  | exact h
  | exact ⟨h.code,by simpa using h1,h2,h3,h4⟩
  | exact ⟨h.code,h1,h2,h3,by dsimp only; omega⟩
end
def mL (N:Nat) (m:gr) (i:Int):Option (gr × cQ):=match m.l[i.toNat]? with
 | none=>none
 | some t=>if t.fault≠0 then some ({m with fault:=t.fault,mv:=i},⟨16,i,t.fault,0,0⟩) else match gO t with
  | none=>none
  | some x=>if (dV m t i x).1.fault=0 then
    (sd N { (dV m t i x).2.1 with at_:=(dV m t i x).2.1.at_+1}).map λ t2=>({ (dV m t i x).1 with l:=(dV m t i x).1.l.set i.toNat t2},{ (dV m t i x).2.2 with t:=i})
   else some ({ (dV m t i x).1 with l:=(dV m t i x).1.l.set i.toNat (dV m t i x).2.1},{ (dV m t i x).2.2 with t:=i})
theorem xF {N:Nat} {m m':gr} {i:Int} {t:fF} {ev:cQ} (h:mL N m i=some (m',ev)) (ht:m.l[i.toNat]? = some t) (hf:t.fault≠0):m'={m with fault:=t.fault,mv:=i}∧ev=⟨16,i,t.fault,0,0⟩:=by
 unfold mL at h; rw [ht] at h; dsimp only at h; rw [if_pos hf] at h
 have:=Option.some.inj h
 exact ⟨(congrArg Prod.fst this).symm,(congrArg Prod.snd this).symm⟩
theorem xG {N:Nat} {m m':gr} {i:Int} {t:fF} {ev:cQ} (h:mL N m i=some (m',ev)) (ht:m.l[i.toNat]? = some t) (hf:¬ t.fault≠0):∃ x,gO t=some x:=by
 unfold mL at h; rw [ht] at h; dsimp only at h; rw [if_neg hf] at h
 cases hn:gO t with
 | none=>rw [hn] at h; cases h
 | some x=>exact ⟨x,rfl⟩
theorem xH {N:Nat} {m m':gr} {i:Int} {t:fF} {x:aW} {ev:cQ} (h:mL N m i=some (m',ev)) (ht:m.l[i.toNat]? = some t) (hf:¬ t.fault≠0) (hn:gO t=some x) (h0:(dV m t i x).1.fault=0) :
  ∃ t2,sd N { (dV m t i x).2.1 with at_:=(dV m t i x).2.1.at_+1}=some t2∧m'={ (dV m t i x).1 with l:=(dV m t i x).1.l.set i.toNat t2}∧ev={ (dV m t i x).2.2 with t:=i}:=by
 unfold mL at h; rw [ht] at h; dsimp only at h; rw [if_neg hf,hn] at h; dsimp only at h; rw [if_pos h0] at h
 cases hg:sd N { (dV m t i x).2.1 with at_:=(dV m t i x).2.1.at_+1} with
 | none=>rw [hg] at h; cases h
 | some t2=>
  rw [hg] at h
  have:=Option.some.inj h
  exact ⟨t2,rfl,(congrArg Prod.fst this).symm,(congrArg Prod.snd this).symm⟩
theorem xI {N:Nat} {m m':gr} {i:Int} {t:fF} {x:aW} {ev:cQ} (h:mL N m i=some (m',ev)) (ht:m.l[i.toNat]? = some t) (hf:¬ t.fault≠0) (hn:gO t=some x) (h0:¬ (dV m t i x).1.fault=0) :
  m'={ (dV m t i x).1 with l:=(dV m t i x).1.l.set i.toNat (dV m t i x).2.1}∧ev={ (dV m t i x).2.2 with t:=i}:=by
 unfold mL at h; rw [ht] at h; dsimp only at h; rw [if_neg hf,hn] at h; dsimp only at h; rw [if_neg h0] at h
 have:=Option.some.inj h
 exact ⟨(congrArg Prod.fst this).symm,(congrArg Prod.snd this).symm⟩
def XB:List Int:=[]++[2]++[3]++[5]++[6]++[7]++[4]++[8]++[9]++[10]
def OF (g:Nat):Value:=.func (.func g) #[] #[]
def XC:List Value:=[]++[OF 130]++[OF 131]++[OF 131]++[OF 131]++[OF 131]++[OF 132]++[OF 133]++[OF 134]++[OF 135]
theorem XD (K:World→Prop) (p:Nat) (m:gr) (n:Nat) (tp:Ptr) (t:fF) (i:Int) (x:aW) (ge gf:SV) (hk:2≤x.kind∧x.kind≤10) (yQ:t.buf.length≤1000) (JJ:xD m.mem) (tL:MB m.mem 1000000)
  (hxa:x.kind=2∨x.kind=4→0≤x.a∧x.a<t.aN.length) (hxb:x.kind=9∨x.kind=10→0≤x.b∧x.b<m.locks.length) (Pz:x.kind=3→0≤x.b∧x.b<m.u.lines.length) :
  ∃ g,Go.Fw.look XB XC x.kind=some (OF g)∧Plain PG g∧∀ (F:Nat→Prop) (w:World),(sep (eI K tp.b m.room t) (kG K p m n tp)).p w F→(∀ w',iE F w w'→K w')→
   Calls PG g [.pointer (some ⟨p,0,none⟩),.pointer (some ⟨tp.b,0,none⟩),.int .i64 i,Flat.val (⟨x.kind,x.a,x.b,ge,gf,x.to⟩:bU)].toArray w
    (qf λ v w'=>v=Flat.val (dV m t i x).2.2∧qz F (sep (eI K tp.b (dV m t i x).1.room (dV m t i x).2.1) (kG K p (dV m t i x).1 n tp)) w w'):=by
 have hr:=xE (m:=m) (t:=t) (i:=i) (x:=x)
 rw [hr]
 obtain h | h | h | h | h | h | h | h | h:x.kind=2∨x.kind=3∨x.kind=4∨x.kind=5∨x.kind=6∨x.kind=7∨x.kind=8∨x.kind=9∨x.kind=10:=by omega
 ·exact ⟨130,by rw [h]; rfl,anF,λ F w hF hK=>by
   have e:dV m t i x=(m,loadT m t x,L5 m t x):=by unfold dV; rw [if_pos h]
   rw [e]; exact C130 K p m n tp t i x ge gf F w hF hK yQ JJ tL (hxa (.inl h))⟩
 ·exact ⟨131,by rw [h]; rfl,PH,λ F w hF hK=>by
   have e:dV m t i x=(m,vI m t x,Ci m t x):=by unfold dV; simp [h]
   rw [e]; exact C131 K p m n tp t i x ge gf F w hF hK yQ JJ tL (.inl h) Pz⟩
 ·exact ⟨132,by rw [h]; rfl,anG,λ F w hF hK=>by
   have e:dV m t i x=(BP m t x,casT m t x,OD m t x):=by unfold dV; simp [h]
   rw [e]; exact C132 K p m n tp t i x ge gf F w hF hK yQ JJ tL (hxa (.inr h))⟩
 ·exact ⟨131,by rw [h]; rfl,PH,λ F w hF hK=>by
   have e:dV m t i x=(m,vI m t x,Ci m t x):=by unfold dV; simp [h]
   rw [e]; exact C131 K p m n tp t i x ge gf F w hF hK yQ JJ tL (.inr (.inl h)) Pz⟩
 ·exact ⟨131,by rw [h]; rfl,PH,λ F w hF hK=>by
   have e:dV m t i x=(m,vI m t x,Ci m t x):=by unfold dV; simp [h]
   rw [e]; exact C131 K p m n tp t i x ge gf F w hF hK yQ JJ tL (.inr (.inr (.inl h))) Pz⟩
 ·exact ⟨131,by rw [h]; rfl,PH,λ F w hF hK=>by
   have e:dV m t i x=(m,vI m t x,Ci m t x):=by unfold dV; simp [h]
   rw [e]; exact C131 K p m n tp t i x ge gf F w hF hK yQ JJ tL (.inr (.inr (.inr h))) Pz⟩
 ·exact ⟨133,by rw [h]; rfl,anH,λ F w hF hK=>by
   have e:dV m t i x=(m,t,⟨7,0,0,0,0⟩):=by unfold dV; simp [h]
   rw [e]; exact C133 K p m n tp t i x ge gf F w hF hK yQ JJ tL⟩
 ·exact ⟨134,by rw [h]; rfl,anI,λ F w hF hK=>by
   have e:dV m t i x=(yC m i x,t,⟨10,0,x.b,0,0⟩):=by unfold dV; simp [h]
   rw [e]; exact C134 K p m n tp t i x ge gf F w hF hK yQ JJ tL (hxb (.inl h))⟩
 ·exact ⟨135,by rw [h]; rfl,anJ,λ F w hF hK=>by
   have e:dV m t i x=(uG m i x,t,Fk m i x):=by unfold dV; simp [h]
   rw [e]; exact C135 K p m n tp t i x ge gf F w hF hK yQ JJ tL (hxb (.inr h))⟩
theorem XE {k:Int} {g:Nat} {z:Value} (h:Go.Fw.look XB XC k=some (OF g)):(Go.Fw.look ([]++[2]++[3]++[5]++[6]++[7]++[4]++[8]++[9]++[10]) ([]++[Value.func (.func 130) #[] #[]]++[Value.func (.func 131) #[] #[]]++[Value.func (.func 131) #[] #[]]++[Value.func (.func 131) #[] #[]]++[Value.func (.func 131) #[] #[]]++[Value.func (.func 132) #[] #[]]++[Value.func (.func 133) #[] #[]]++[Value.func (.func 134) #[] #[]]++[Value.func (.func 135) #[] #[]]) k).getD z=OF g:=by
 have h2:Go.Fw.look ([]++[2]++[3]++[5]++[6]++[7]++[4]++[8]++[9]++[10]) ([]++[Value.func (.func 130) #[] #[]]++[Value.func (.func 131) #[] #[]]++[Value.func (.func 131) #[] #[]]++[Value.func (.func 131) #[] #[]]++[Value.func (.func 131) #[] #[]]++[Value.func (.func 132) #[] #[]]++[Value.func (.func 133) #[] #[]]++[Value.func (.func 134) #[] #[]]++[Value.func (.func 135) #[] #[]]) k=some (OF g):=h
 rw [h2]; rfl
theorem C62 (K:World→Prop) (p:Nat) (m:gr) (q:ej) (qv:cX) (t:fF) (F:Nat→Prop) (w:World) (hF:(en K p m).p w F) (hK:∀ w',iE F w w'→K w') (lX:qG m) (tL:MB m.mem 1000000) (hq:cA.dr w qv q) (h0:0≤q.t) (ht:m.l[q.t.toNat]? = some t):CR 62 [(.pointer (some ⟨p,0,none⟩)),Flat.val qv] w (λ v w'=>v=Flat.val (ph q.t (eh t.buf q.i))∧qz F (en K p (mw m t q)) w w'):=by
 have hs:=St.begin hF;obtain ⟨a,hu,hs⟩:=en.open hs;have wU:=hs.p4.lu;obtain ⟨Q7,rfl,aea⟩:=hq;have yQ:=(lX.th t (List.mem_of_getElem? ht)).bl;have mF:=(List.getElem?_eq_some_iff.1 ht).1;refine aib _ _ _ _ ?_;unfold S62;refine dE hs (λ ya w1 hs=>aJ hs km (λ CB w2 hs=>?_));refine ⟨_,?_,λ _ _ h=>h⟩;refine aF (aA jl (have hs:=hs.drew;aB pI hs.p2.hb rfl (aA jy (aB (v:=.int .i64 ((q).t)) bN hs.p1.hb rfl ?_))));obtain ⟨jr,dG⟩:=gx (a.ps) (i:=((q).t).toNat) (by omega);refine dU hs.p5 qx (by omega) (by omega) (λ _ iS=>gk hs.p5 zQ iS dG ?_)
 have hs:=Xt hs.p6 dG ht;obtain ⟨bp,gl,rg,cn,qT,hs⟩:=eI.open hs;refine aF (aA mY (aB rh hs.hb rfl (aA xm (aB (v:=.int .i64 ((q).i)) bN hs.p6.hb rfl ?_))));refine ⟨?_,?_⟩
 ·refine bH afk hs.p1 (H':=λ _=>nQ bp m.room (mq t.buf q.i)) (Φ:=λ v _=>v = .tuple #[Flat.val (eh t.buf q.i),.int .i64 (AA t.buf q.i)]) (λ F2 eQ ey=>?_) ?_
  ·exact C127 bp m.room t.buf q.i F2 _ eQ (by omega)
  rintro _ w3 rfl hs;refine bE rfl (bE rfl (aJ hs uX (λ ur w4 hs=>?_)));refine ⟨aG pI (hs.p8.hb.cell rfl),?_⟩;refine ⟨aG bN (hs.p7.hb.cell rfl),?_⟩;refine ⟨Qp hs.p11 zQ iS dG,?_⟩;refine ⟨aG rh (hs.p2.hb.cell rfl),?_⟩;refine ⟨aG bN (hs.p7.hb.cell rfl),?_⟩;refine aI (x:=(eh t.buf q.i)) hs kq rfl rfl (λ w5 hs=>?_);intro fz;refine aA pK (aB (v:=.int .i64 (((eh t.buf q.i)).kind)) bN hs.hb rfl (aH (aC (λ gh=>?_) (λ gh=>?_))))
  ·refine aF (aA jM (have hs:=hs.drew;aB so hs.p8.hb rfl (aA oa (aB (v:=.int .i64 (((eh t.buf q.i)).cell)) bN hs.hb rfl (aA mZ (aB (v:=.int .i64 (((eh t.buf q.i)).n)) bN hs.hb rfl (bH Uw hs.p9 (H':=λ _=>fV a.q a.ov a.fv (iO m.mem ((eh t.buf q.i)).cell ((eh t.buf q.i)).n)) (Φ:=λ _ _=>True) (λ F2 eQ ey=>?_) ?_)))))))
   ·exact (C128 a.q a.ov a.fv m.mem F2 _ _ _ eQ (λ w' hc=>hu.mem _ (hK w' (ey w' hc).aE)) lX.mem tL).mono λ _ _ r=>r.mono λ _ _ h=>⟨trivial,h.2⟩
   rintro _ pP _ hs;refine aA jy (aB (v:=.int .i64 ((q).t)) bN hs.p8.hb rfl (aA oa (aB (v:=.int .i64 (((eh t.buf q.i)).cell)) bN hs.p1.hb rfl (aA mZ (aB (v:=.int .i64 (((eh t.buf q.i)).n)) bN hs.p1.hb rfl (pop (yp _ _ _ _) (aI (x:=(⟨12,(q).t,((eh t.buf q.i)).cell,((eh t.buf q.i)).n,0⟩:cQ)) hs.p7 eW rfl rfl (λ sB hs=>aD eW hs.At ?_))))))));have hs:=(eI.shut (room:=m.room) (t:={t with buf:=mq t.buf q.i}) qT hs.p6.p6.p5.p6).p4;have hs:=St.sw (H:=qm K m.room) (x:={t with buf:=mq t.buf q.i}) hs.p1 (by have:=(List.getElem?_eq_some_iff.1 ht).1; omega) wU dG
   have I7:ic m.mem (eh t.buf q.i)=iO m.mem (eh t.buf q.i).cell (eh t.buf q.i).n:=by unfold ic; rw [if_pos gh]
   have XF:ph q.t (eh t.buf q.i)=⟨12,q.t,(eh t.buf q.i).cell,(eh t.buf q.i).n,0⟩:=by unfold ph; rw [if_pos gh]
   have hs:=(show St w F (cE p (jZ a (mw m t q))::fV a.q a.ov a.fv (mw m t q).mem::_) _ from by unfold mw; rw [I7]; exact hs.p7.p7.p4.p7);have hs:=en.shut (m:=mw m t q) ⟨hu.ln,hu.cl,hu.rc,λ w hw=>by show uC _ _ (ic m.mem _) w; rw [I7]; first | exact hu.mem w hw | exact (hu.mem w hw).write | exact (hu.mem w hw).out⟩ hs;have hs:=(((hs.p1.drop.p1).drop).p1).drop;refine ⟨?_,hs.mut⟩;rw [XF]
  ·refine aH (aC (λ kN=>?_) (λ kN=>?_))
   ·refine aA jy (aB (v:=.int .i64 ((q).t)) bN hs.p7.hb rfl (pop (Bl _ _) (aI (x:=(⟨14,(q).t,0,0,0⟩:cQ)) hs.p6 eW rfl rfl (λ u7 hs=>aD eW hs.At ?_))));have hs:=(eI.shut (room:=m.room) (t:={t with buf:=mq t.buf q.i}) qT hs.p5.p5.p4.p5).p3;have hs:=St.sw (H:=qm K m.room) (x:={t with buf:=mq t.buf q.i}) hs.p1 (by have:=(List.getElem?_eq_some_iff.1 ht).1; omega) wU dG;have I7:ic m.mem (eh t.buf q.i)=m.mem:=by unfold ic; rw [if_neg gh,if_pos kN]
    have XF:ph q.t (eh t.buf q.i)=⟨14,q.t,0,0,0⟩:=by unfold ph; rw [if_neg gh,if_pos kN]
    have hs:=(show St w F (cE p (jZ a (mw m t q))::fV a.q a.ov a.fv (mw m t q).mem::_) _ from by unfold mw; rw [I7]; exact hs.p7.p7.p7.p7);have hs:=en.shut (m:=mw m t q) ⟨hu.ln,hu.cl,hu.rc,λ w hw=>by show uC _ _ (ic m.mem _) w; rw [I7]; first | exact hu.mem w hw | exact (hu.mem w hw).write | exact (hu.mem w hw).out⟩ hs;have hs:=(((hs.p1.drop.p1).drop).p1).drop;refine ⟨?_,hs.mut⟩;rw [XF]
   ·refine aF (aA jM (have hs:=hs.drew;aB so hs.p8.hb rfl (aA lg (aB (v:=.int .i64 (((eh t.buf q.i)).line)) bN hs.hb rfl (bH afl hs.p9 (H':=λ _=>fV a.q a.ov a.fv (vQ m.mem ((eh t.buf q.i)).line)) (Φ:=λ _ _=>True) (λ F2 eQ ey=>?_) ?_)))))
    ·exact (C129 a.q a.ov a.fv m.mem F2 _ _ eQ (λ w' hc=>hu.mem _ (hK w' (ey w' hc).aE)) lX.mem tL).mono λ _ _ r=>r.mono λ _ _ h=>⟨trivial,h.2⟩
    rintro _ u9 _ hs;refine aA jy (aB (v:=.int .i64 ((q).t)) bN hs.p8.hb rfl (aA lg (aB (v:=.int .i64 (((eh t.buf q.i)).line)) bN hs.p1.hb rfl (pop (su _ _ _) (aI (x:=(⟨13,(q).t,((eh t.buf q.i)).line,0,0⟩:cQ)) hs.p7 eW rfl rfl (λ r9 hs=>aD eW hs.At ?_))))));have hs:=(eI.shut (room:=m.room) (t:={t with buf:=mq t.buf q.i}) qT hs.p6.p6.p5.p6).p4;have hs:=St.sw (H:=qm K m.room) (x:={t with buf:=mq t.buf q.i}) hs.p1 (by have:=(List.getElem?_eq_some_iff.1 ht).1; omega) wU dG;have I7:ic m.mem (eh t.buf q.i)=vQ m.mem (eh t.buf q.i).line:=by unfold ic; rw [if_neg gh,if_neg kN]
    have XF:ph q.t (eh t.buf q.i)=⟨13,q.t,(eh t.buf q.i).line,0,0⟩:=by unfold ph; rw [if_neg gh,if_neg kN]
    have hs:=(show St w F (cE p (jZ a (mw m t q))::fV a.q a.ov a.fv (mw m t q).mem::_) _ from by unfold mw; rw [I7]; exact hs.p7.p7.p4.p7);have hs:=en.shut (m:=mw m t q) ⟨hu.ln,hu.cl,hu.rc,λ w hw=>by show uC _ _ (ic m.mem _) w; rw [I7]; first | exact hu.mem w hw | exact (hu.mem w hw).write | exact (hu.mem w hw).out⟩ hs;have hs:=(((hs.p1.drop.p1).drop).p1).drop;refine ⟨?_,hs.mut⟩;rw [XF]
 ·refine ⟨?_,?_⟩
  ·refine aJ hs uX (λ ayU w6 hs=>?_);refine ⟨aG pI (hs.p8.hb.cell rfl),?_⟩;refine ⟨aG bN (hs.p7.hb.cell rfl),?_⟩;refine ⟨Qp hs.p11 zQ iS dG,?_⟩;refine ⟨aG rh (hs.p1.hb.cell rfl),?_⟩;refine ⟨aG bN (hs.p7.hb.cell rfl),?_⟩;refine bH afk hs.p2 (H':=λ _=>nQ bp m.room (mq t.buf q.i)) (Φ:=λ v _=>v = .tuple #[Flat.val (eh t.buf q.i),.int .i64 (AA t.buf q.i)]) (λ F2 eQ ey=>?_) ?_
   ·exact C127 bp m.room t.buf q.i F2 _ eQ (by omega)
   rintro _ w7 rfl hs;refine bE rfl (bE rfl (aI (x:=(eh t.buf q.i)) hs.p1 kq rfl rfl (λ w8 hs=>?_)));intro fz;refine aA pK (aB (v:=.int .i64 (((eh t.buf q.i)).kind)) bN hs.hb rfl (aH (aC (λ gh=>?_) (λ gh=>?_))))
   ·refine aF (aA jM (have hs:=hs.drew;aB so hs.p8.hb rfl (aA oa (aB (v:=.int .i64 (((eh t.buf q.i)).cell)) bN hs.hb rfl (aA mZ (aB (v:=.int .i64 (((eh t.buf q.i)).n)) bN hs.hb rfl (bH Uw hs.p9 (H':=λ _=>fV a.q a.ov a.fv (iO m.mem ((eh t.buf q.i)).cell ((eh t.buf q.i)).n)) (Φ:=λ _ _=>True) (λ F2 eQ ey=>?_) ?_)))))))
    ·exact (C128 a.q a.ov a.fv m.mem F2 _ _ _ eQ (λ w' hc=>hu.mem _ (hK w' (ey w' hc).aE)) lX.mem tL).mono λ _ _ r=>r.mono λ _ _ h=>⟨trivial,h.2⟩
    rintro _ pP _ hs;refine aA jy (aB (v:=.int .i64 ((q).t)) bN hs.p8.hb rfl (aA oa (aB (v:=.int .i64 (((eh t.buf q.i)).cell)) bN hs.p1.hb rfl (aA mZ (aB (v:=.int .i64 (((eh t.buf q.i)).n)) bN hs.p1.hb rfl (pop (yp _ _ _ _) (aI (x:=(⟨12,(q).t,((eh t.buf q.i)).cell,((eh t.buf q.i)).n,0⟩:cQ)) hs.p7 eW rfl rfl (λ sB hs=>aD eW hs.At ?_))))))));have hs:=(eI.shut (room:=m.room) (t:={t with buf:=mq t.buf q.i}) qT hs.p6.p6.p5.p6).p4;have hs:=St.sw (H:=qm K m.room) (x:={t with buf:=mq t.buf q.i}) hs.p1 (by have:=(List.getElem?_eq_some_iff.1 ht).1; omega) wU dG
    have I7:ic m.mem (eh t.buf q.i)=iO m.mem (eh t.buf q.i).cell (eh t.buf q.i).n:=by unfold ic; rw [if_pos gh]
    have XF:ph q.t (eh t.buf q.i)=⟨12,q.t,(eh t.buf q.i).cell,(eh t.buf q.i).n,0⟩:=by unfold ph; rw [if_pos gh]
    have hs:=(show St w F (cE p (jZ a (mw m t q))::fV a.q a.ov a.fv (mw m t q).mem::_) _ from by unfold mw; rw [I7]; exact hs.p7.p7.p4.p7);have hs:=en.shut (m:=mw m t q) ⟨hu.ln,hu.cl,hu.rc,λ w hw=>by show uC _ _ (ic m.mem _) w; rw [I7]; first | exact hu.mem w hw | exact (hu.mem w hw).write | exact (hu.mem w hw).out⟩ hs;have hs:=(((hs.p1.drop.p1).drop).p1).drop;refine ⟨?_,hs.mut⟩;rw [XF]
   ·refine aH (aC (λ kN=>?_) (λ kN=>?_))
    ·refine aA jy (aB (v:=.int .i64 ((q).t)) bN hs.p7.hb rfl (pop (Bl _ _) (aI (x:=(⟨14,(q).t,0,0,0⟩:cQ)) hs.p6 eW rfl rfl (λ u7 hs=>aD eW hs.At ?_))));have hs:=(eI.shut (room:=m.room) (t:={t with buf:=mq t.buf q.i}) qT hs.p5.p5.p4.p5).p3;have hs:=St.sw (H:=qm K m.room) (x:={t with buf:=mq t.buf q.i}) hs.p1 (by have:=(List.getElem?_eq_some_iff.1 ht).1; omega) wU dG;have I7:ic m.mem (eh t.buf q.i)=m.mem:=by unfold ic; rw [if_neg gh,if_pos kN]
     have XF:ph q.t (eh t.buf q.i)=⟨14,q.t,0,0,0⟩:=by unfold ph; rw [if_neg gh,if_pos kN]
     have hs:=(show St w F (cE p (jZ a (mw m t q))::fV a.q a.ov a.fv (mw m t q).mem::_) _ from by unfold mw; rw [I7]; exact hs.p7.p7.p7.p7);have hs:=en.shut (m:=mw m t q) ⟨hu.ln,hu.cl,hu.rc,λ w hw=>by show uC _ _ (ic m.mem _) w; rw [I7]; first | exact hu.mem w hw | exact (hu.mem w hw).write | exact (hu.mem w hw).out⟩ hs;have hs:=(((hs.p1.drop.p1).drop).p1).drop;refine ⟨?_,hs.mut⟩;rw [XF]
    ·refine aF (aA jM (have hs:=hs.drew;aB so hs.p8.hb rfl (aA lg (aB (v:=.int .i64 (((eh t.buf q.i)).line)) bN hs.hb rfl (bH afl hs.p9 (H':=λ _=>fV a.q a.ov a.fv (vQ m.mem ((eh t.buf q.i)).line)) (Φ:=λ _ _=>True) (λ F2 eQ ey=>?_) ?_)))))
     ·exact (C129 a.q a.ov a.fv m.mem F2 _ _ eQ (λ w' hc=>hu.mem _ (hK w' (ey w' hc).aE)) lX.mem tL).mono λ _ _ r=>r.mono λ _ _ h=>⟨trivial,h.2⟩
     rintro _ u9 _ hs;refine aA jy (aB (v:=.int .i64 ((q).t)) bN hs.p8.hb rfl (aA lg (aB (v:=.int .i64 (((eh t.buf q.i)).line)) bN hs.p1.hb rfl (pop (su _ _ _) (aI (x:=(⟨13,(q).t,((eh t.buf q.i)).line,0,0⟩:cQ)) hs.p7 eW rfl rfl (λ r9 hs=>aD eW hs.At ?_))))));have hs:=(eI.shut (room:=m.room) (t:={t with buf:=mq t.buf q.i}) qT hs.p6.p6.p5.p6).p4;have hs:=St.sw (H:=qm K m.room) (x:={t with buf:=mq t.buf q.i}) hs.p1 (by have:=(List.getElem?_eq_some_iff.1 ht).1; omega) wU dG;have I7:ic m.mem (eh t.buf q.i)=vQ m.mem (eh t.buf q.i).line:=by unfold ic; rw [if_neg gh,if_neg kN]
     have XF:ph q.t (eh t.buf q.i)=⟨13,q.t,(eh t.buf q.i).line,0,0⟩:=by unfold ph; rw [if_neg gh,if_neg kN]
     have hs:=(show St w F (cE p (jZ a (mw m t q))::fV a.q a.ov a.fv (mw m t q).mem::_) _ from by unfold mw; rw [I7]; exact hs.p7.p7.p4.p7);have hs:=en.shut (m:=mw m t q) ⟨hu.ln,hu.cl,hu.rc,λ w hw=>by show uC _ _ (ic m.mem _) w; rw [I7]; first | exact hu.mem w hw | exact (hu.mem w hw).write | exact (hu.mem w hw).out⟩ hs;have hs:=(((hs.p1.drop.p1).drop).p1).drop;refine ⟨?_,hs.mut⟩;rw [XF]
  ·trivial
set_option maxHeartbeats 1000000 in
theorem C63 (K:World→Prop) (p:Nat) (m:gr) (N:Nat) (i:Int) (t:fF) (m2:gr) (ev:cQ) (F:Nat→Prop) (w:World) (hF:(en K p m).p w F) (hK:∀ w',iE F w w'→K w') (lX:qG m) (tL:MB m.mem 1000000) (h0:0≤i) (ht:m.l[i.toNat]? = some t) (sQ:mL N m i=some (m2,ev)):CR 63 [(.pointer (some ⟨p,0,none⟩)),.int .i64 i] w (λ v w'=>v=Flat.val ev∧qz F (en K p m2) w w'):=by
 have hs:=St.begin hF;obtain ⟨a,hu,hs⟩:=en.open hs;have wU:=hs.p4.lu;have CE:=List.mem_of_getElem? ht;have nP:=lX.th t CE;have mF:=(List.getElem?_eq_some_iff.1 ht).1;refine aic _ _ _ _ ?_;unfold S63;refine aJ hs km (λ CB w1 hs=>aF (aA jl (aB pI hs.p1.hb rfl ?_)));obtain ⟨pS,jW⟩:=gx (a.ps) (i:=(i).toNat) (by omega);refine dU hs.p4 qx (by omega) (by omega) (λ _ rz=>gk hs.p4 zQ rz jW ?_);have hs:=Xt hs.p5 jW ht;obtain ⟨bp,gl,rg,cn,qT,hs⟩:=eI.open hs;refine aF (aA tV (aB bN hs.hb rfl (cO (aC (λ gv=>?_) (λ gv=>?_)))))
 ·refine aF (aA tV (aB bN hs.hb rfl (aF (aA n8 (aV hs.p6 bN (eL rfl) (rfl) (λ w2 hs=>aF (aA DJ (aV hs bN (eL rfl) (rfl) (λ w3 hs=>aF (aA tV (aB bN hs.p1.hb rfl (pop (su _ _ _) ?_))))))))))));refine aI (x:=(⟨16,i,t.fault,0,0⟩:cQ)) hs.p6 eW rfl rfl (λ w4 hs=>aD eW hs.At ?_);have hs:=St.sw (H:=qm K m.room) (x:=t) (((eI.shut (room:=m.room) (t:=t) qT hs.p5.p5.p5.p5).p3).p1) (by have:=(List.getElem?_eq_some_iff.1 ht).1; omega) wU jW;rw [u4 ht] at hs;have hs:=en.shut (m:={m with fault:=t.fault,mv:=i}) ⟨hu.ln,hu.cl,hu.rc,hu.mem⟩ hs.p5.p5.p5.p5
  have hs:=(hs.p1).drop;obtain ⟨rfl,rfl⟩:=xF sQ ht gv;exact ⟨rfl,hs.mut⟩
 ·have hs:=eI.shut (room:=m.room) (t:=t) qT hs.p3.p3.p3.p3;obtain ⟨x,vH⟩:=xG sQ ht gv;refine ed Zz (C65 K pS.b m.room t _ (hs).has (hK _ hs.aE) nP) ?_;rintro v41 w5 hh;obtain ⟨x2,xv,ayV,hxv,rfl,he⟩:=hh.resolve_left (λ h=>by rw [vH] at h; cases h.1);obtain rfl:x=x2:=Option.some.inj (vH.symm.trans ayV);have hs:=hs.ext he;have hxm:=qS vH;obtain ⟨ge,gf,rfl,_,_⟩:=hxv _ (hK _ hs.aE);have hkd:=lX.st t CE x vH (by omega);refine bE rfl (bE rfl (aJ hs mE (λ Ot w6 hs=>have hs:=hs.enc (cs':=Flat.enc (⟨0,0,0,⟨none,0,0⟩,⟨none,0,0⟩,0⟩:bU)) rfl;aI (x:=(⟨x.kind,x.a,x.b,ge,gf,x.to⟩:bU)) hs lL rfl rfl (λ w7 hs=>wQ hs (λ b_x44 w8 hs=>ib hs Tryz.underlying211 oU (by decide) (λ w9 hs=>ib hs Tryz.underlying211 oU (by decide) (λ pP hs=>ib hs Tryz.underlying211 oU (by decide) (λ sB hs=>ib hs Tryz.underlying211 oU (by decide) (λ u7 hs=>ib hs Tryz.underlying211 oU (by decide) (λ u9 hs=>ib hs Tryz.underlying211 oU (by decide) (λ r9 hs=>ib hs Tryz.underlying211 oU (by decide) (λ vT hs=>ib hs Tryz.underlying211 oU (by decide) (λ yO hs=>?_)))))))))))))
  refine ib hs Tryz.underlying211 oU (by decide) (λ B6 hs=>aA jm (aB (v:=.int .i64 x.kind) bN hs.p1.hb rfl ?_));have hrl:=nP.rg;have MM:=lX.lk;obtain ⟨g,arU,vz,lY⟩:=XD K p m i.toNat pS t i x ge gf hkd nP.bl lX.mem tL (λ h=>by have:=lX.arI t CE x hxm.1 h; omega) (λ h=>by have:=lX.lkb t CE x hxm.1 h; omega) (lX.lnb t CE x hxm.1);refine ⟨_,pe hs.AD Tryz.underlying211 oU ab4,?_⟩;rw [XE arU];refine aD lL hs.p1.At (have hs:=kG.shut (m:=m) (⟨hu,jW,wU,by omega⟩) hs.p3.p8.p8.p8.p8;have hs:=St.join hs.p3;Xl (first:=[]) (cap:=[]) vz hs (H':=λ _=>sep (eI K pS.b (dV m t i x).1.room (dV m t i x).2.1) (kG K p (dV m t i x).1 i.toNat pS)) (Φ:=λ v _=>v=Flat.val (dV m t i x).2.2) (λ F2 eQ ey=>?_) ?_)
  ·exact lY F2 _ eQ (λ w' hc=>hK w' (ey w' hc).aE)
  rintro _ GQ rfl hs;refine aJ hs km (λ b_e9 IF hs=>aI (x:=(dV m t i x).2.2) hs eW rfl rfl (λ JH hs=>aA abW (aV hs bN (eL rfl) (rfl) (λ Lr hs=>?_))));have hs:=hs.enc (cs':=Flat.enc ({ (dV m t i x).2.2 with t:=i}:cQ)) rfl;refine ⟨_,?_,λ _ h=>h⟩;refine aF ?_;have hs:=hs.p1.split.p1;obtain ⟨a2,hx,hs⟩:=kG.open hs;refine aA n8 (aB bN hs.hb rfl (aH (aC (λ kz=>?_) (λ kz=>?_))))
  ·have hs:=kG.shut (m:=(dV m t i x).1) (hx) hs.p4.p4.p4.p4.p4;obtain ⟨t2,hg,rfl,rfl⟩:=xH sQ ht gv vH kz;have ti:(dV m t i x).2.1.at_=t.at_:=C7;have QK:=nP.code.len;have ayP:=nP.TS;have hs:=hs.p1;obtain ⟨bp,gl,rg,cn,qT,hs⟩:=eI.open hs;refine aF (aA kn (aB bN hs.hb rfl (aO (by omega) (aF (aA kn (aV hs bN (eL rfl) (rfl) (λ NS hs=>?_)))))));have hs:=eI.shut (room:=(dV m t i x).1.room) (t:=(⟨(dV m t i x).2.1.code,((dV m t i x).2.1.at_+1),(dV m t i x).2.1.aN,(dV m t i x).2.1.counts,(dV m t i x).2.1.fault,(dV m t i x).2.1.e,(dV m t i x).2.1.f,(dV m t i x).2.1.buf⟩:fF)) qT hs.p3.p3.p3.p3
   have tC:=Q9 (m:=m) (t:=t) (i:=i) (x:=x) nP lX.rm.2;have XG:Ho { (dV m t i x).2.1 with at_:=(dV m t i x).2.1.at_+1}:=⟨tC.code,tC.rg,tC.cn,by dsimp only; omega,tC.bl⟩;refine bH afg hs (H':=λ _=>eI K pS.b (dV m t i x).1.room t2) (Φ:=λ _ _=>True) (λ F2 eQ ey=>?_) ?_
   ·exact (C122 K pS.b (dV m t i x).1.room { (dV m t i x).2.1 with at_:=(dV m t i x).2.1.at_+1} t2 N F2 _ eQ (λ w' hc=>hK w' (ey w' hc).aE) XG hg).mono λ _ _ r=>r.mono λ _ _ h=>⟨trivial,h.2⟩
   rintro _ Sy _ hs;intro fz;refine aD eW hs.p2.At (aI (x:=({ (dV m t i x).2.2 with t:=i}:cQ)) hs.p5 eW rfl rfl (λ QQ hs=>aD eW hs.At ?_));have hs:=((((((((L4 hs.p2.p2).p1).drop).p1).drop).p1).drop).p1).drop;exact ⟨rfl,hs.mut⟩
  ·intro fz;refine aD eW hs.p6.At (aI (x:=({ (dV m t i x).2.2 with t:=i}:cQ)) hs.p9 eW rfl rfl (λ QQ hs=>aD eW hs.At ?_));have hs:=((((L4 ((kG.shut (m:=(dV m t i x).1) (hx) hs.p5.p5.p5.p5.p5).p2)).p1).drop).p1).drop;have hs:=((hs.p1.drop).p1).drop;obtain ⟨rfl,rfl⟩:=xI sQ ht gv vH kz;exact ⟨rfl,hs.mut⟩
end Go.Proofs.YtnjcingfdhjfkaaGreat
namespace Go.Fw
def C8 (F:Nat→Prop) (w0 w':World):Prop:=∀ b,F b→w'.heap[b]? = w0.heap[b]?
section
variable {α σ:Type} [Flat σ] [D:cA α σ] {w w0:World} {A F:Nat→Prop} {L:List HP} {v:Value} {xs:List α} {ts us:List σ}
theorem St.arV {Φ:World→Prop} (hs:St w0 A (Fw.eB Φ::L) w):∃ F,St w0 A (Fw.eB (C8 F w)::L) w∧∀ w',C8 F w w'→Φ w':=by
 obtain ⟨U,F,U',g1,g2,g3,g4,g5⟩:=hs.sX
 exact ⟨F,⟨hs.aE,U,F,U',⟨λ w' h=>h,g1.2⟩,g2,g3,g4,g5⟩,λ w' h=>g1.1 w' h⟩
theorem C8.refl (F:Nat→Prop) (w:World):C8 F w w:=λ _ _=>rfl
theorem L6 (inj:∀ x y:σ,Flat.enc x=Flat.enc y→x=y):∀ {ts us:List σ},ts.length=us.length→flat ts=flat us→ts=us
 | [],[],_,_=>rfl
 | t::ts,u::us,hl,h=>by
  rw [jg,jg] at h
  have:=List.append_inj h (by rw [Flat.len,Flat.len])
  rw [inj _ _ this.1,L6 inj (by simpa using hl) this.2]
 | [],_::_,hl,_=>by simp at hl
 | _::_,[],hl,_=>by simp at hl
theorem eE.func {S S':Nat→Prop} (inj:∀ x y:σ,Flat.enc x=Flat.enc y→x=y) (h:eE S w v ts) (h':eE S' w v us):ts=us:=by
 obtain ⟨a,cap,rfl,hc,h3⟩:=h
 obtain ⟨a',Kl,hv,hc',h3'⟩:=h'
 simp only [Value.slice.injEq] at hv
 obtain ⟨rfl,hl,rfl⟩:=hv
 refine L6 inj hl (List.ext_getElem? λ j=>?_)
 have Cw:(flat ts).length=(flat us).length:=by rw [cT,cT,hl]
 by_cases hj:j<(flat ts).length
 ·have hj':j<(flat us).length:=by omega
  rcases h3 with ⟨rfl,_⟩ | ⟨b,o,rfl,_,h5⟩
  ·simp [kj] at hj
  ·rcases h3' with ⟨rfl,_⟩ | ⟨b',o',ha,_,h5'⟩
   ·simp [kj] at hj'
   ·simp only [Option.some.injEq,Addr.mk.injEq,and_true] at ha
    obtain ⟨rfl,rfl⟩:=ha
    have c1:=h5 j _ (List.getElem?_eq_getElem hj)
    have c2:=h5' j _ (List.getElem?_eq_getElem hj')
    unfold Cell at c1 c2
    rw [List.getElem?_eq_getElem hj,List.getElem?_eq_getElem hj']
    exact c1.symm.trans c2
 ·rw [List.getElem?_eq_none (by omega),List.getElem?_eq_none (by omega)]
theorem C8.rd (h:∀ w',C8 F w w'→DL w' v xs) (hr:eE (λ _=>True) w v ts) (hn:ts.length=xs.length):∀ w',C8 F w w'→eE (λ _=>True) w' v ts:=by
 intro w' hw
 have hr0:=hr
 obtain ⟨a,cap,rfl,hc,h3⟩:=hr
 rcases h3 with ⟨h3,h4⟩ | ⟨b,o,rfl,h4,h5⟩
 ·exact ⟨a,cap,rfl,hc,.inl ⟨h3,h4⟩⟩
 ·cases ts with
  | nil=>exact ⟨_,cap,rfl,hc,.inr ⟨b,o,rfl,λ h=>absurd rfl h,λ j c hj=>by simp [kj] at hj⟩⟩
  | cons t ts=>
   by_cases hF:F b
   ·exact ⟨_,cap,rfl,hc,.inr ⟨b,o,rfl,λ _=>trivial,λ j c hj=>(h5 j c hj).of_eq (hw b hF)⟩⟩
   ·exfalso
    have h6:DL (ChangeMaps.setBlock w b (.map #[] 0)) (.slice (some ⟨b,o,none⟩) (t::ts).length cap) xs:=h _ λ b' hb'=>by
     simp only [ChangeMaps.setBlock]; exact Array.getElem?_setIfInBounds_ne (λ e=>hF (by rw [e]; exact hb'))
    obtain ⟨us,⟨a',Kl,hv,_,h7⟩,hul,_⟩:=h6
    simp only [Value.slice.injEq] at hv
    obtain ⟨rfl,hl,rfl⟩:=hv
    have zK:0<(flat us).length:=by rw [cT,← hl]; exact Nat.mul_pos (by simp) (Flat.pos (α:=σ))
    rcases h7 with ⟨rfl,_⟩ | ⟨b',o',ha,_,h8⟩
    ·simp at hl
    ·simp only [Option.some.injEq,Addr.mk.injEq,and_true] at ha
     obtain ⟨rfl,rfl⟩:=ha
     have yl:=h8 0 _ (List.getElem?_eq_getElem zK)
     have hb:=(h5 0 _ (List.getElem?_eq_getElem (by rw [cT]; exact Nat.mul_pos (by simp) (Flat.pos (α:=σ))))).lt
     unfold Cell World.cell? at yl
     dsimp only at yl
     rw [mu _ hb] at yl
     simp at yl
theorem C8.fix (inj:∀ x y:σ,Flat.enc x=Flat.enc y→x=y) (h:∀ w',C8 F w w'→DL w' v xs):∃ ts:List σ,ts.length=xs.length∧∀ w',C8 F w w'→eE (λ _=>True) w' v ts∧iB ts xs w':=by
 obtain ⟨ts,hr,hd⟩:=(h w (C8.refl F w)).open
 refine ⟨ts,hd.1,λ w' hw=>?_⟩
 have h1:=C8.rd h hr hd.1 w' hw
 obtain ⟨us,YT,hd'⟩:=(h w' hw).open
 rw [eE.func inj h1 YT] at *
 exact ⟨YT,hd'⟩
end
section
variable {P:Program} {T:Nat} {cx cy:Bool} {a b:Int} {K:Value→Prop}
theorem XH (h:0≤a - b∧a - b≤255) (k:K (.int .u8 (a - b))):cY P (iC .sub T cx cy (.int .u8 a) (.int .u8 b)) K:=
 ⟨_,(show pr P (iC .sub T cx cy (.int .u8 a) (.int .u8 b))=some (.int .u8 (a - b)) from by
  show some (Value.int .u8 (IntKind.u8.wrap (a - b)))=_
  have:IntKind.u8.wrap (a - b)=a - b:=by
   unfold IntKind.wrap; simp [IntKind.bits,IntKind.signed]; omega
  rw [this]),k⟩
theorem SX {src dst:TypeId} (h1:P.underlying src=some (.int .u8)) (h2:P.underlying dst=some (.int .i64)) (h:0≤a∧a≤255) (k:K (.int .i64 a)):cY P (convert src dst (.int .u8 a)) K:=by
 refine ⟨_,?_,k⟩
 unfold convert
 simp only [cN,cM h1,cM h2,Option.bind_some]
 show some (Value.int .i64 (IntKind.i64.wrap a))=_
 rw [IntWalk.i64_in _ (by omega)]
end
end Go.Fw
namespace Go.Proofs.YtnjcingfdhjfkaaGreat
open Go.Fw
def qb (c:fq):fF:=⟨c,0,List.replicate c.aN.toNat 0,List.replicate c.counts.toNat 0,0,0,0,[]⟩
def rR (N:Nat) (cs:List fq) (ts:List fF):Prop:=ts.length=cs.length∧∀ (j:Nat) (c:fq) (t:fF),cs[j]? = some c→ts[j]? = some t→sd N (qb c)=some t
theorem Jh {c:fq} (h:BM c):Ho (qb c):=⟨h,by have:=h.rb; simp [qb]; omega,by have:=h.cb; simp [qb]; omega,by simp [qb],by simp [qb]⟩
def arW (K:World→Prop) (OG:List cL) (cs:List fq):Prop:=OG.length=cs.length∧∀ (j:Nat) (cv:cL) (c:fq),OG[j]? = some cv→cs[j]? = some c→∃ gl:SV,cv=⟨c.aN,c.counts,gl⟩∧Fh K (Flat.val gl) c.l
theorem OH (x y:cL) (h:Flat.enc x=Flat.enc y):x=y:=by
 obtain ⟨a,b,⟨c,d,e⟩⟩:=x; obtain ⟨a',b',⟨c',d',e'⟩⟩:=y; simp [Flat.enc] at h; simp [h]
theorem L7 (x y:bU) (h:Flat.enc x=Flat.enc y):x=y:=by
 obtain ⟨a,b,c,⟨d,e,f⟩,⟨g,i,j⟩,k⟩:=x; obtain ⟨a',b',c',⟨d',e',f'⟩,⟨g',i',j'⟩,k'⟩:=y; simp [Flat.enc] at h; simp [h]
theorem L8 {F:Nat→Prop} {w1:World} {gl:Value} {l:List aW} (h:∀ w',C8 F w1 w'→DL w' gl l):Fh (C8 F w1) gl l:=by
 obtain ⟨ts,_,h2⟩:=C8.fix L7 h; exact ⟨ts,h2⟩
def lS (u:ir) (room:Int):gr:=⟨u,room,Xm u.lines u.stays u.dF,[],[],0,0,0⟩
def lJ (m:gr) (ts:List fF):gr:={m with locks:=List.replicate m.u.locks.toNat (-1),l:=ts}
theorem XI {w w0:World} {A:Nat→Prop} {L:List HP} {p q:Nat} {u:ir} {room:Int} {sh:dL} {ov fv:SV}
  (hs:St w0 A (cE p (jZ ⟨sh.lines,sh.dF,sh.threads,sh.recover.l,sh.cC,q,Flat.val ov,Flat.val fv,.slice none 0 0,.slice none 0 0,[]⟩ (lS u room)) ::
   fV q (Flat.val ov) (Flat.val fv) (Xm u.lines u.stays u.dF)::bK (Flat.val ov) (u.lines.take u.stays.toNat)::bK (Flat.val fv) u.dF::eB (λ w=>cA.dr w sh u)::L) w) :
  ∃ (K:World→Prop) (OG:List cL),St w0 A (en K p (lS u room)::eB K::L) w∧(∀ w,K w→eE (λ _=>True) w (Flat.val sh.threads) OG)∧arW K OG u.threads:=by
 have h1:=hs.p2.freeze
 have h2:=(h1.p3.freeze).p1.fP
 have h3:=(h2.p3.p1.fP)
 obtain ⟨F,h4,h5⟩:=h3.arV
 have hd:∀ w',C8 F w w'→cA.dr w' sh u:=λ w' h=>by have:=h5 w' h; first | exact this.1 | exact this.2 | exact this.1.1 | exact this.2.2
 have hov:∀ w',C8 F w w'→eE (λ _=>True) w' (Flat.val ov) (u.lines.take u.stays.toNat):=λ w' h=>by have:=h5 w' h; first | exact this.1.1 | exact this.1.2 | exact this.2.1 | exact this.2.2
 have hfv:∀ w',C8 F w w'→eE (λ _=>True) w' (Flat.val fv) u.dF:=λ w' h=>by have:=h5 w' h; first | exact this.1.1 | exact this.1.2 | exact this.2.1 | exact this.2.2
 have hth:∀ w',C8 F w w'→DL w' (Flat.val sh.threads) u.threads:=λ w' h=>by obtain ⟨_,_,_,_,_,e,q1,q2,q3,q4,q5⟩:=hd w' h; rw [e]; exact q3
 obtain ⟨OG,QK,SI⟩:=C8.fix OH hth
 refine ⟨C8 F w,OG,?_,λ w' h=>(SI w' h).1,QK,λ j cv c h1 h2=>?_⟩
 ·have h6:St w0 A (iF (qm (C8 F w) room) [] []::_) w:=h4.new (Ext.refl w) (F:=bD) (λ _ h=>h) λ _ h=>h.elim
  have h7:=((h6.fU (α:=Ptr)).fU (α:=Int))
  refine en.shut (a:=⟨sh.lines,sh.dF,sh.threads,sh.recover.l,sh.cC,q,Flat.val ov,Flat.val fv,.slice none 0 0,.slice none 0 0,[]⟩) (m:=lS u room) ⟨λ w' h=>?_,λ w' h=>?_,L8 λ w' h=>?_,λ w' h=>⟨hov w' h,hfv w' h⟩⟩ h7.p5.p5
  ·obtain ⟨_,_,_,_,_,e,q1,q2,q3,q4,q5⟩:=hd w' h; rw [e]; exact DL.flat q1
  ·obtain ⟨_,_,_,_,_,e,q1,q2,q3,q4,q5⟩:=hd w' h; rw [e]; exact q5
  ·obtain ⟨_,_,_,_,_,e,q1,q2,q3,q4,q5⟩:=hd w' h; rw [e]
   obtain ⟨g,e2,q6⟩:=q4; rw [e2]; exact q6
 ·have hh:∀ w',C8 F w w'→cA.dr w' cv c:=λ w' h=>(SI w' h).2.2 j cv c h1 h2
  obtain ⟨gl,e,_⟩:=hh w (C8.refl F w)
  subst e
  exact ⟨gl,rfl,L8 λ w' h=>by obtain ⟨gl',e,h6⟩:=hh w' h; cases e; exact h6⟩
structure Ra (N:Nat) (u:ir) (mP:List fF):Prop where
 b:rR N u.threads mP
 co:∀ c∈u.threads,BM c
 len:u.lines.length=u.dF.length
 l20:u.lines.length≤20
 st:0≤u.stays∧u.stays≤u.lines.length
 ln:∀ (k:Nat) (n:Int),(k:Int)<u.stays→u.lines[k]? = some n→(n=lz u.lines k∨(0<k∧n=lz u.lines k - 1))∧-10≤n∧n≤100
 lk:0≤u.locks∧u.locks≤1000
set_option maxHeartbeats 1000000 in
theorem C55 (K:World→Prop) (p:Nat) (m:gr) (N:Nat) (L9:List fq) (mP:List fF) (lv:Value) (OG:List cL) (F:Nat→Prop) (w:World) (hF:(en K p m).p w F) (hK:∀ w',iE F w w'→K w') (hrm:1≤m.room∧m.room≤16) (MM:0≤m.u.locks∧m.u.locks≤1000) (hl:∀ w',iE F w w'→eE (λ _=>True) w' lv OG) (SI:arW K OG L9) (ayX:∀ c∈L9,BM c) (hb:rR N L9 mP) (hn:L9.length≤1000):CR 55 [(.pointer (some ⟨p,0,none⟩)),lv] w (λ v w'=>v = .tuple #[]∧qz F (en K p (lJ m mP)) w w'):=by
 have hs:=St.begin hF;obtain ⟨a,hu,hs⟩:=en.open hs;have wU:=hs.p4.lu;have hcvl:=SI.1;refine ah4 _ _ _ _ ?_;unfold S55;refine aF (aA jl (aV hs pI (eL rfl) (rfl) (λ w1 hs=>aF (aA n7 (aV hs eA (eL rfl) (rfl) (λ w2 hs=>aF (aA tU (aA CT (aB bN hs.hb rfl ?_)))))))));have hs:=(((hs.p3.drop.p3.drop.p2.drop.fU (α:=Int)).p2).p1).p2;refine ⟨λ mm x w'=>∃ (k:Nat) (HX:Value),x = .int .i64 (k:Int)∧mm=m.u.locks.toNat - k∧k≤m.u.locks.toNat∧St w F [cE p (jZ {a with lk:=HX,ll:=.slice none 0 0} m),bK HX (List.replicate k (-1:Int)),fV a.q a.ov a.fv m.mem] w',⟨_,0,_,rfl,rfl,Nat.zero_le _,hs⟩,?_⟩
 rintro mm _ w3 ⟨k,HX,rfl,rfl,TP,hs⟩ fz;refine aR (aC (λ gv=>?_) (λ gv=>?_))
 ·refine aF (aA n7 (aB eA hs.hb rfl (bX (([-1]:List Int)) hs ek rfl rfl (eL rfl) (λ Qx w4 hs=>?_))));have EB:=(hs).fB;refine cP hs.p2 ek EB (by rw [List.length_replicate,List.length_singleton]; omega) (by decide) (λ arX w5 hs=>have hs:=hs.p1.drop;aF (aA n7 (aV hs.p1 eA (eL rfl) ((hs).fB.one) (λ w6 hs=>aO (by omega) ?_))));have hs:=hs.p2.p2.p2;exact ⟨_,by omega,k+1,arX,rfl,rfl,by omega,by rw [List.replicate_succ']; exact hs⟩
 ·refine aK Bj (hl _ hs.aE) ?_;have hs:=hs.p1;rw [show k=m.u.locks.toNat from by omega] at hs;have hs:=((((((hs.KP (H:=qm K m.room)).fU (α:=Ptr)).p4).p3).p3).p3).p4;refine ⟨λ mm x w'=>∃ (j:Nat) (XJ:Value) (ps:List Ptr),x = .int .i64 (j:Int)∧mm=OG.length - j∧j≤OG.length∧St w F [cE p (jZ {a with lk:=HX,ll:=XJ} m),bK XJ ps,iF (qm K m.room) ps (mP.take j),bK HX (List.replicate m.u.locks.toNat (-1:Int)),fV a.q a.ov a.fv m.mem] w',⟨_,0,_,_,rfl,rfl,Nat.zero_le _,hs⟩,?_⟩;rintro mm _ w7 ⟨j,XJ,ps,rfl,rfl,hj1,hs⟩ jB;refine aR (aC (λ jC=>?_) (λ jC=>?_))
  ·refine ⟨_,?_,λ _ h=>h⟩;obtain ⟨agH,E2⟩:=gx (OG) (i:=((j:Int)).toNat) (by omega);refine aQ Bj (hl _ hs.aE) (by omega) E2 (λ _ ui=>?_);obtain ⟨c,hc⟩:∃ c,L9[j]? = some c:=⟨_,List.getElem?_eq_getElem (by have:=SI.1; omega)⟩;obtain ⟨t1,ht1⟩:∃ t,mP[j]? = some t:=⟨_,List.getElem?_eq_getElem (by have:=SI.1; have:=hb.1; omega)⟩;have hg:=hb.2 j c t1 hc ht1;obtain ⟨gl,Ij,arY⟩:=SI.2 j _ _ E2 hc;subst Ij;have hco:=ayX c (List.mem_of_getElem? hc);have Zb:=hco.rb;have hcb:=hco.cb;refine aD qg (ui) (aJ hs Io (λ akc w8 hs=>have hs:=hs.enc (cs':=Flat.enc (⟨0,0,⟨none,0,0⟩⟩:cL)) rfl;aI (x:=(⟨c.aN,c.counts,gl⟩:cL)) hs qg rfl rfl (λ w9 hs=>aF (aA UG (aB bN hs.p1.hb rfl (ed anp (C52 m.room _) ?_))))))
   rintro v43 pP hh;obtain ⟨_,_,b52,rfl,bV⟩:=hh.resolve_left (λ h=>by omega);have hs:=hs.made bV;refine bE rfl (bE rfl ?_);refine ⟨λ t8 w'=>∃ tb,t8 = .pointer (some ⟨tb,0,none⟩)∧St w F [eI K tb m.room (qb c),cE akc (Flat.enc (⟨c.aN,c.counts,gl⟩:cL)),cE p (jZ {a with lk:=HX,ll:=XJ} m),bK XJ ps,iF (qm K m.room) ps (mP.take j),bK HX (List.replicate m.u.locks.toNat (-1:Int)),fV a.q a.ov a.fv m.mem] w',?_,?_⟩
   ·have hs:=hs.drew;refine aD qg hs.p1.At (aA xj (aB (v:=.int .i64 c.aN) bN hs.p1.hb rfl (aA CS (aB (v:=.int .i64 c.counts) bN hs.p1.hb rfl ?_))));refine ⟨?_,?_⟩
    ·refine v9 (0:Int) hs ek B2 (by omega) (by omega) (by decide) (λ V2 sB hs=>?_);refine ⟨eU qg hs.p2.At,?_⟩;refine ⟨aG bN (hs.p2.hb.cell rfl),?_⟩;refine v9 (0:Int) hs ek B2 (by omega) (by omega) (by decide) (λ s_x53 u7 hs=>?_);refine ⟨eU qg hs.p3.At,?_⟩;refine ⟨aG bN (hs.p3.hb.cell rfl),?_⟩;obtain ⟨ayY,rfl⟩:=(hs.p1).fR;obtain ⟨OI,rfl⟩:=(hs).fR;refine pop (wi _ _ _ _ _ _ _ _ _ _ _ _) (lZ hs (λ b_x55 u9 hs=>?_));have hs:=hs.p9.p9.p9.p9.p9.p9.p7.p8.p9.p9;exact ⟨_,rfl,eI.shut (t:=qb c) arY hs⟩
    ·refine ⟨?_,?_⟩
     ·refine v9 (0:Int) hs ek B2 (by omega) (by omega) (by decide) (λ auc r9 hs=>?_);refine ⟨eU qg hs.p2.At,?_⟩;refine ⟨aG bN (hs.p2.hb.cell rfl),?_⟩;refine v9 (0:Int) hs ek B2 (by omega) (by omega) (by decide) (λ aud vT hs=>?_);refine ⟨eU qg hs.p3.At,?_⟩;refine ⟨aG bN (hs.p3.hb.cell rfl),?_⟩;obtain ⟨arZ,rfl⟩:=(hs).fR;obtain ⟨ar0,rfl⟩:=(hs.p1).fR;refine pop (wi _ _ _ _ _ _ _ _ _ _ _ _) (lZ hs (λ aue yO hs=>?_));have hs:=hs.p9.p9.p9.p9.p9.p9.p8.p8.p9.p9;exact ⟨_,rfl,eI.shut (t:=qb c) arY hs⟩
     ·trivial
   ·rintro _ B6 ⟨tb,rfl,hs⟩ oN;refine bH afg hs (H':=λ _=>eI K tb m.room t1) (Φ:=λ _ _=>True) (λ F2 eQ ey=>?_) ?_
    ·exact (C122 K tb m.room (qb c) t1 N F2 _ eQ (λ w' hc=>hK w' (ey w' hc).aE) (Jh hco) hg).mono λ _ _ r=>r.mono λ _ _ h=>⟨trivial,h.2⟩
    rintro _ GQ _ hs;refine aF (aA jl ?_);have vz:=(hs.p4).lu;refine aB pI hs.p2.hb rfl (bX ([(⟨tb⟩:Ptr)]) hs qx rfl rfl (eL rfl) (λ ar1 IF hs=>?_));have akU:=(hs).fB;refine cP hs.p4 qx akU (by rw [List.length_take] at vz; simp; omega) (by decide) (λ agY JH hs=>have hs:=hs.p1.drop;aF (aA jl (aV hs.p3 pI (eL rfl) ((hs).fB.one) (λ Lr hs=>?_))));intro F6;refine aO (by omega) ?_;have hs:=(((((St.D5 (H:=qm K m.room) (p:=⟨tb⟩) (x:=t1) hs.p2.p4).p3).drop).p4).p4).p2;have hs:=hs.p4.p4;exact ⟨_,by omega,j+1,agY,ps++[⟨tb⟩],rfl,rfl,by omega,by rw [← gZ (k:=j) ht1]; exact hs⟩
  ·have hs:=hs.p2.p2.p3.p4.p4;rw [List.take_of_length_le (by have:=hb.1; omega)] at hs;exact ⟨rfl,(en.shut (m:=lJ m mP) (a:={a with lk:=HX,ll:=XJ,ps:=ps}) ⟨hu.ln,hu.cl,hu.rc,hu.mem⟩ hs).mut⟩
def iy (m:gr) (q:ej):Option (List Int):=if q.kind=3∧q.t=0∧q.i=0∧m.fault=0 then jK m.mem q.cut else none
def wV (m:gr) (oK:List Int):gr:={m with mem:=ze m.mem oK,ew:=m.ew+1}
def Ck (N:Nat) (m:gr) (q:ej):Option (gr × cQ × Int):=match iy m q with
 | some oK=>(sd N (qb m.u.recover)).map λ t=>(lJ (wV m oK) [t],⟨15,0,0,yB q.cut q.cut.length,0⟩,0)
 | none=>if (cJ m).any (jE q)=true then
   (if q.kind=2 then (m.l[q.t.toNat]?).map λ t=>(mw m t q,ph q.t (eh t.buf q.i),0) else (mL N m q.t).map λ r=>(r.1,r.2,0))
  else some (m,⟨0,0,0,0,0⟩,13)
section
variable {N:Nat} {m m2:gr} {q:ej} {ev:cQ} {e:Int} {oK:List Int}
theorem qV (h:Ck N m q=some (m2,ev,e)) (hc:iy m q=some oK):∃ t,sd N (qb m.u.recover)=some t∧m2=lJ (wV m oK) [t]∧ev=⟨15,0,0,yB q.cut q.cut.length,0⟩∧e=0:=by
 unfold Ck at h; rw [hc] at h; dsimp only at h
 cases hg:sd N (qb m.u.recover) with
 | none=>rw [hg] at h; cases h
 | some t=>rw [hg] at h; cases h; exact ⟨t,rfl,rfl,rfl,rfl⟩
theorem pB (h:Ck N m q=some (m2,ev,e)) (hc:iy m q=none) (ha:¬ (cJ m).any (jE q)=true):m2=m∧ev=⟨0,0,0,0,0⟩∧e=13:=by
 unfold Ck at h; rw [hc] at h; dsimp only at h; rw [if_neg ha] at h
 cases h; exact ⟨rfl,rfl,rfl⟩
theorem pC {t:fF} (h:Ck N m q=some (m2,ev,e)) (hc:iy m q=none) (ha:(cJ m).any (jE q)=true) (hk:q.kind=2) (ht:m.l[q.t.toNat]? = some t):m2=mw m t q∧ev=ph q.t (eh t.buf q.i)∧e=0:=by
 unfold Ck at h; rw [hc] at h; dsimp only at h; rw [if_pos ha,if_pos hk,ht] at h
 cases h; exact ⟨rfl,rfl,rfl⟩
theorem nh (h:Ck N m q=some (m2,ev,e)) (hc:iy m q=none) (ha:(cJ m).any (jE q)=true) (hk:¬ q.kind=2):mL N m q.t=some (m2,ev)∧e=0:=by
 unfold Ck at h; rw [hc] at h; dsimp only at h; rw [if_pos ha,if_neg hk] at h
 cases hs:mL N m q.t with
 | none=>rw [hs] at h; cases h
 | some r=>rw [hs] at h; cases h; exact ⟨rfl,rfl⟩
theorem wW {k:Nat} {x:ej} (h:x∈kZ m k):∃ i t,i<k∧m.l[i]? = some t∧x∈tD m i t:=by
 unfold kZ at h
 rw [List.mem_flatMap] at h
 obtain ⟨i,hi,hx⟩:=h
 cases ht:m.l[i]? with
 | none=>rw [ht] at hx; cases hx
 | some t=>rw [ht] at hx; exact ⟨i,t,List.mem_range.1 hi,ht,hx⟩
theorem Ma {i:Nat} {t:fF} {x:ej} (h:x∈tD m i t):x.t=i:=by
 unfold tD at h
 rw [List.mem_append] at h
 rcases h with h | h
 ·split at h
  ·simp at h; rw [h]
  ·cases h
 ·rw [List.mem_map] at h; obtain ⟨_,_,rfl⟩:=h; rfl
theorem qn (h:(cJ m).any (jE q)=true):0≤q.t∧∃ t,m.l[q.t.toNat]? = some t:=by
 rw [List.any_eq_true] at h
 obtain ⟨x,hx,hs⟩:=h
 unfold cJ at hx
 split at hx
 ·cases hx
 ·obtain ⟨i,t,_,ht,A6⟩:=wW hx
  have h1:=Ma A6
  unfold jE at hs
  simp only [Bool.and_eq_true,decide_eq_true_eq] at hs
  have:q.t=(i:Int):=by omega
  rw [this]; exact ⟨by omega,t,ht⟩
theorem pj (h:qG m):(cJ m).length≤1001000:=by
 unfold cJ; split
 ·simp
 ·exact Nat.le_trans (wT h _) (Nat.mul_le_mul_right 1001 h.tl)
end
def XK (m:Mem) (cut:List Int) (v:Value) (m2:Mem):Prop:=(jK m cut=none∧m2=m∧v = .int .i64 1)∨∃ oK,jK m cut=some oK∧m2=ze m oK∧v = .int .i64 0
theorem SY {m:Mem} {cut:List Int} {v:Value} {p:Nat} {ov fv:Value} {F:Nat→Prop} {w w':World}
  (h:(jK m cut=none∧v = .int .i64 1∧qz F (fV p ov fv m) w w')∨∃ oK,jK m cut=some oK∧v = .int .i64 0∧qz F (fV p ov fv (ze m oK)) w w') :
  True∧qz F (ue λ m2=>fact (XK m cut v m2) (fV p ov fv m2)) w w':=by
 refine ⟨trivial,?_⟩
 rcases h with ⟨h1,h2,F',h3,h4,h5⟩ | ⟨oK,h1,h2,F',h3,h4,h5⟩
 ·exact ⟨F',⟨m,.inl ⟨h1,rfl,h2⟩,h3⟩,h4,h5⟩
 ·exact ⟨F',⟨ze m oK,.inr ⟨oK,h1,rfl,h2⟩,h3⟩,h4,h5⟩
set_option maxHeartbeats 1000000 in
theorem C15 (u:ir) (uv:dL) (room:Int) (N:Nat) (mP:List fF) (w:World) (hu:cA.dr w uv u) (hz:UZ u) (hn:nA u=true→Ra N u mP):CR 15 [Flat.val uv,.int .i64 room] w (λ v w'=>(nA u=false∧v = .tuple #[.pointer none,.int .i64 8]∧Ext w w')∨(nA u=true∧(room<1∨16<room)∧v = .tuple #[.pointer none,.int .i64 1]∧Ext w w')∨(nA u=true∧1≤room∧room≤16∧∃ K p,v = .tuple #[.pointer (some ⟨p,0,none⟩),.int .i64 0]∧lW (sep (en K p (lJ (lS u room) mP)) (eB K)) w w')):=by
 obtain ⟨iK,gL,fa,sM,fk,rfl,iL,jw,jd,jS,kX⟩:=hu;obtain ⟨dM,rfl,il⟩:=jS;have hs:=St.start w;refine ahv _ _ _ _ ?_;unfold S15;refine dE hs (λ b_u2 w1 hs=>aD r8 hs.At (aZ ava hs (C51 u _ _ ⟨iK,gL,fa,(⟨((u).recover).aN,((u).recover).counts,dM⟩:cL),fk,rfl,(iL.ext hs.aE),(jw.ext hs.aE),(jd.ext hs.aE),⟨dM,rfl,(il.ext hs.aE)⟩,(kX.ext hs.aE)⟩ hz) (λ w2 he hs=>bZ (aY (λ gT=>?_) (λ gT=>?_)))))
 ·exact .inl ⟨by simpa using gT,rfl,hs.drop.aE⟩
 ·have A5:=hn (by simpa using gT);refine ed anp (C52 room _) ?_;rintro v_x14 w3 akV
  rcases akV with ⟨Zb,rfl,he⟩ | ⟨hr1,Gx,b52,rfl,bV⟩
  ·have hs:=hs.ext he;refine bE rfl (bE rfl (cO (gG (by decide) ?_)));exact .inr (.inl ⟨by simpa using gT,Zb,rfl,hs.drop.aE⟩)
  ·have hs:=hs.made bV;refine bE rfl (bE rfl (cO (fM (by decide) (aD r8 hs.p1.At (ed avb (C53 u _ _ ⟨iK,gL,fa,(⟨((u).recover).aN,((u).recover).counts,dM⟩:cL),fk,rfl,(iL.ext hs.aE),(jw.ext hs.aE),(jd.ext hs.aE),⟨dM,rfl,(il.ext hs.aE)⟩,(kX.ext hs.aE)⟩ hz) ?_)))));rintro _ w4 ⟨XL,rfl,bV⟩;have hs:=hs.made bV;refine pop (Nn _ _ _ _ _ _ _ _ _ _ _ _ _ _ _ _ _ _ _ _) (lZ hs (λ B7 w5 hs=>aA mD (aB eA hs.p3.hb rfl ?_)));have ar2:=DL.flat (iL);refine aA pq (aB (v:=.int .i64 ((u).stays)) bN hs.p3.hb rfl (aA xk (aB eA hs.p3.hb rfl ?_)))
   have ar3:=DL.flat (jw);refine ed avc (C54 u.lines u.dF u.stays _ _ _ (ar2.ext hs.aE) (ar3.ext hs.aE) A5.len A5.l20 A5.st A5.ln) ?_;rintro v33 w6 ⟨q,ov,fv,rfl,bV⟩;have hs:=((hs.made bV).split).p1.split;refine bE rfl (bE rfl (aF (aA jM (aV hs.p3 so (eL rfl) (rfl) (λ w7 hs=>aF (aA tU (aA sm (aB FW hs.hb rfl ?_))))))));obtain ⟨s1,s2,s3,s4,s5,hsh,q1,q2,q3,q4,q5⟩:=(hs.p4).eB;obtain ⟨g4,hs4,_⟩:=q4;subst hs4;subst hsh;have hs:=hs.p4.p2.p4.p4.p4;obtain ⟨K,OG,hs,ayZ,ay0⟩:=XI (room:=room) (sh:=(⟨s1,u.stays,s2,u.locks,s3,⟨u.recover.aN,u.recover.counts,g4⟩,s5⟩:dL)) hs
   refine bH anq hs (H':=λ _=>en K B7 (lJ (lS u room) mP)) (Φ:=λ _ _=>True) (λ F2 eQ ey=>?_) ?_
   ·exact (C55 K B7 (lS u room) N u.threads mP _ OG F2 _ eQ (λ w' hc=>(ey w' hc).eB) ⟨hr1,Gx⟩ A5.lk (λ w' hc=>ayZ w' (ey w' hc).eB) ay0 A5.co A5.b hz.threads).mono λ _ _ r=>r.mono λ _ _ h=>⟨trivial,h.2⟩
   rintro _ w8 _ hs;have hs:=((hs.p2.drop.p2.drop).p1).p1;exact .inr (.inr ⟨by simpa using gT,hr1,Gx,K,B7,rfl,(St.join hs).fresh⟩)
set_option maxHeartbeats 2000000 in
theorem C17 (K:World→Prop) (p:Nat) (m:gr) (N:Nat) (q:ej) (gc:SV) (m2:gr) (ev:cQ) (e:Int) (F:Nat→Prop) (w:World) (hF:(en K p m).p w F) (hK:∀ w',iE F w w'→K w') (lX:qG m) (tL:MB m.mem 1000000) (hcb:0≤m.ew∧m.ew≤1000000) (ay1:BM m.u.recover) (MM:0≤m.u.locks∧m.u.locks≤1000) (AN:∀ w',iE F w w'→eE (λ _=>True) w' (Flat.val gc) q.cut) (hql:q.cut.length≤1000) (hd:Ck N m q=some (m2,ev,e)):CR 17 [(.pointer (some ⟨p,0,none⟩)),Flat.val (⟨q.kind,q.t,q.i,gc⟩:cX)] w (λ v w'=>v = .tuple #[Flat.val ev,.int .i64 e]∧qz F (en K p m2) w w'):=by
 have hs:=St.begin hF;obtain ⟨a,hu,hs⟩:=en.open hs;have wU:=hs.p4.lu;refine ahx _ _ _ _ ?_;unfold S17;refine dE (x:=(⟨q.kind,q.t,q.i,gc⟩:cX)) hs (λ ya w1 hs=>aJ hs km (λ CB w2 hs=>?_));refine ⟨_,?_,λ _ _ h=>h⟩;refine aA pw (have hs:=hs.drew;aB (v:=.int .i64 q.kind) bN hs.p1.hb rfl (aH (aC (λ gw=>?_) (λ gw=>?_))))
 ·refine aA jy (aB (v:=.int .i64 q.t) bN hs.p1.hb rfl (aH (aC (λ kM=>?_) (λ kM=>?_))))
  ·refine aA xm (aB (v:=.int .i64 q.i) bN hs.p1.hb rfl (aH (aC (λ gd=>?_) (λ gd=>?_))))
   ·refine aF (aA n8 (aB bN hs.p2.hb rfl (aH (aC (λ fD=>?_) (λ fD=>?_)))))
    ·refine aF (aA jM (aB so hs.p2.hb rfl (aA sn (aB (v:=Flat.val (gc:SV)) eA hs.p1.hb rfl (bH avf hs.p3 (H':=λ v=>ue λ m2=>fact (XK m.mem q.cut v m2) (fV a.q a.ov a.fv m2)) (Φ:=λ _ _=>True) (λ F2 eQ ey=>?_) ?_)))))
     ·exact (C58 a.q a.ov a.fv m.mem F2 q.cut _ _ eQ (λ w' hc=>hu.mem _ (hK w' (ey w' hc).aE)) lX.mem tL (λ w' hc=>AN w' (ey w' hc).aE) hql).mono λ _ _ r=>r.mono λ _ _ h=>SY h
     rintro v34 w3 _ AO;obtain ⟨m2c,AP⟩:=AO.eX
     clear AO
     obtain ⟨hcf,C9⟩:=AP.oM
     clear AP
     rcases hcf with ⟨him,rfl,rfl⟩ | ⟨oK,him,rfl,rfl⟩
     ·have hs:=C9;have CX:iy m q=none:=by unfold iy; rw [if_pos ⟨gw,kM,gd,fD⟩]; exact him
      refine aH ?_;intro fz;refine fM (by decide) (have hs:=en.shut (m:=m) hu hs.p6.p6.p6.p3.p6;cZ Cu hs (C16 K p m _ hs.has (hK _ hs.aE) (λ w2 e=>hK _ (hs.aE.then e)) lX) (λ x58 pP bV hs=>?_));have WO:=hs.p3.At;have KH:oo PG _ (.func (.func 60) [].toArray [.pointer (some ⟨ya,0,none⟩)].toArray) (λ _:ej=>True) (jE q):=
 ⟨60,[],_,rfl,Uo,λ sx y w1 e1 MS _=>C60 y q sx ya (⟨q.kind,q.t,q.i,gc⟩:cX) w1 MS (WO.ext e1) ⟨gc,rfl,DL.fu (AN _ (hs.aE.then e1))⟩⟩
      refine aZ Up hs (C61 _ _ _ (λ _=>True) _ _ (hs).dl KH (λ _ _=>trivial) (by have:=pj lX; omega)) (λ sB he hs=>bZ (aY (λ kz=>?_) (λ kz=>?_)))
      ·refine pop (DP) (aI (x:=(⟨0,0,0,0,0⟩:cQ)) hs.p2 eW rfl rfl (λ u7 hs=>aD eW hs.At ?_));have hs:=((((hs.drop)).drop).p1).drop;obtain ⟨rfl,rfl,rfl⟩:=pB hd CX (by simpa using kz);exact ⟨rfl,hs.mut⟩
      ·have qX:(cJ m).any (jE q)=true:=by simpa using kz
       obtain ⟨h0,t,ht⟩:=qn qX;refine aA pw (aB (v:=.int .i64 q.kind) bN hs.p3.hb rfl (aH (aC (λ ni=>?_) (λ ni=>?_))))
       ·refine aD lf hs.p3.At ?_;obtain ⟨rfl,rfl,rfl⟩:=pC hd CX qX ni ht;have hs:=hs.p1;refine bH Uq hs (H':=λ _=>en K p (mw m t q)) (Φ:=λ v _=>v=Flat.val (ph q.t (eh t.buf q.i))) (λ F2 eQ ey=>?_) ?_
        ·exact C62 K p m q (⟨q.kind,q.t,q.i,gc⟩:cX) t F2 _ eQ (λ w' hc=>hK w' (ey w' hc).aE) lX tL ⟨gc,rfl,DL.fu (AN _ hs.aE)⟩ h0 ht
        rintro _ u9 rfl hs;refine aI (x:=(ph q.t (eh t.buf q.i))) hs.p2 eW rfl rfl (λ r9 hs=>aD eW hs.At ?_);have hs:=(((hs.drop.p1).drop).p1).drop;exact ⟨rfl,hs.mut⟩
       ·refine aA jy (aB (v:=.int .i64 q.t) bN hs.p3.hb rfl ?_);obtain ⟨sQ,rfl⟩:=nh hd CX qX ni;have hs:=hs.p1;refine bH Ur hs (H':=λ _=>en K p m2) (Φ:=λ v _=>v=Flat.val ev) (λ F2 eQ ey=>?_) ?_
        ·exact C63 K p m N q.t t m2 ev F2 _ eQ (λ w' hc=>hK w' (ey w' hc).aE) lX tL h0 ht sQ
        rintro _ vT rfl hs;refine aI (x:=ev) hs.p2 eW rfl rfl (λ yO hs=>aD eW hs.At ?_);have hs:=(((hs.drop.p1).drop).p1).drop;exact ⟨rfl,hs.mut⟩
     ·have hs:=C9;have CX:iy m q=some oK:=by unfold iy; rw [if_pos ⟨gw,kM,gd,fD⟩]; exact him
      refine aH ?_;intro fz;refine gG (by decide) (aF (aA DI (aB bN hs.p3.hb rfl (aO (by omega) (aF (aA DI (aV hs.p3 bN (eL rfl) (rfl) (λ w5 hs=>aF (aA tU (aA zN (uZ (⟨m.u.recover.aN,m.u.recover.counts,a.rcl⟩:cL) qg hs.hb rfl (bX ([(⟨m.u.recover.aN,m.u.recover.counts,a.rcl⟩:cL)]) hs Bj rfl rfl (eL rfl) (λ V2 w6 hs=>?_)))))))))))));have hs:=en.shut (m:=(wV m oK)) ⟨hu.ln,hu.cl,hu.rc,hu.mem⟩ hs.p7.p7.p7.p5.p5;obtain ⟨t2,hg,rfl,rfl,rfl⟩:=qV hd CX;have hs:=hs.p1.p1;refine bH anq hs (H':=λ _=>en K p (lJ (wV m oK) [t2])) (Φ:=λ _ _=>True) (λ F2 eQ ey=>?_) ?_
      ·exact (C55 K p (wV m oK) N [m.u.recover] [t2] _ [(⟨m.u.recover.aN,m.u.recover.counts,a.rcl⟩:cL)] F2 _ eQ (λ w' hc=>hK w' (ey w' hc).aE) lX.rm MM (λ w' hc=>(ey w' hc).fB) ⟨rfl,λ j cv c h1 h2=>by cases j with | zero=>(simp at h1 h2; subst h1 h2; exact ⟨a.rcl,rfl,hu.rc⟩) | succ j=>simp at h1⟩ (by simpa using ay1) ⟨rfl,λ j c t h1 h2=>by cases j with | zero=>(simp at h1 h2; subst h1 h2; exact hg) | succ j=>simp at h1⟩ (by simp)).mono λ _ _ r=>r.mono λ _ _ h=>⟨trivial,h.2⟩
      rintro _ w7 _ hs;refine aA sn (aB (v:=Flat.val (gc:SV)) eA hs.p3.hb rfl (aZ avg hs (C59 _ q.cut _ (AN _ hs.aE) (by omega)) (λ w8 he hs=>pop (ud _ _) (aI (x:=(⟨15,0,0,(yB q.cut q.cut.length),0⟩:cQ)) hs.p2 eW rfl rfl (λ w9 hs=>aD eW hs.At ?_)))));have hs:=(((hs.drop.p1).drop).p1).drop;exact ⟨rfl,hs.mut⟩
    ·have CX:iy m q=none:=by unfold iy; rw [if_neg (by exact λ h=>fD h.2.2.2)]
     intro fz;refine fi (have hs:=en.shut (m:=m) hu hs.p6.p6.p6.p6.p6;cZ Cu hs (C16 K p m _ hs.has (hK _ hs.aE) (λ w2 e=>hK _ (hs.aE.then e)) lX) (λ x58 pP bV hs=>?_));have WO:=hs.p3.At;have KH:oo PG _ (.func (.func 60) [].toArray [.pointer (some ⟨ya,0,none⟩)].toArray) (λ _:ej=>True) (jE q):=
 ⟨60,[],_,rfl,Uo,λ sx y w1 e1 MS _=>C60 y q sx ya (⟨q.kind,q.t,q.i,gc⟩:cX) w1 MS (WO.ext e1) ⟨gc,rfl,DL.fu (AN _ (hs.aE.then e1))⟩⟩
     refine aZ Up hs (C61 _ _ _ (λ _=>True) _ _ (hs).dl KH (λ _ _=>trivial) (by have:=pj lX; omega)) (λ sB he hs=>bZ (aY (λ kz=>?_) (λ kz=>?_)))
     ·refine pop (DP) (aI (x:=(⟨0,0,0,0,0⟩:cQ)) hs.p2 eW rfl rfl (λ u7 hs=>aD eW hs.At ?_));have hs:=((((hs.drop)).drop).p1).drop;obtain ⟨rfl,rfl,rfl⟩:=pB hd CX (by simpa using kz);exact ⟨rfl,hs.mut⟩
     ·have qX:(cJ m).any (jE q)=true:=by simpa using kz
      obtain ⟨h0,t,ht⟩:=qn qX;refine aA pw (aB (v:=.int .i64 q.kind) bN hs.p3.hb rfl (aH (aC (λ ni=>?_) (λ ni=>?_))))
      ·refine aD lf hs.p3.At ?_;obtain ⟨rfl,rfl,rfl⟩:=pC hd CX qX ni ht;have hs:=hs.p1;refine bH Uq hs (H':=λ _=>en K p (mw m t q)) (Φ:=λ v _=>v=Flat.val (ph q.t (eh t.buf q.i))) (λ F2 eQ ey=>?_) ?_
       ·exact C62 K p m q (⟨q.kind,q.t,q.i,gc⟩:cX) t F2 _ eQ (λ w' hc=>hK w' (ey w' hc).aE) lX tL ⟨gc,rfl,DL.fu (AN _ hs.aE)⟩ h0 ht
       rintro _ u9 rfl hs;refine aI (x:=(ph q.t (eh t.buf q.i))) hs.p2 eW rfl rfl (λ r9 hs=>aD eW hs.At ?_);have hs:=(((hs.drop.p1).drop).p1).drop;exact ⟨rfl,hs.mut⟩
      ·refine aA jy (aB (v:=.int .i64 q.t) bN hs.p3.hb rfl ?_);obtain ⟨sQ,rfl⟩:=nh hd CX qX ni;have hs:=hs.p1;refine bH Ur hs (H':=λ _=>en K p m2) (Φ:=λ v _=>v=Flat.val ev) (λ F2 eQ ey=>?_) ?_
       ·exact C63 K p m N q.t t m2 ev F2 _ eQ (λ w' hc=>hK w' (ey w' hc).aE) lX tL h0 ht sQ
       rintro _ vT rfl hs;refine aI (x:=ev) hs.p2 eW rfl rfl (λ yO hs=>aD eW hs.At ?_);have hs:=(((hs.drop.p1).drop).p1).drop;exact ⟨rfl,hs.mut⟩
   ·have CX:iy m q=none:=by unfold iy; rw [if_neg (by exact λ h=>gd h.2.2.1)]
    intro fz;refine fi (have hs:=en.shut (m:=m) hu hs.p6.p6.p6.p6.p6;cZ Cu hs (C16 K p m _ hs.has (hK _ hs.aE) (λ w2 e=>hK _ (hs.aE.then e)) lX) (λ x58 pP bV hs=>?_));have WO:=hs.p3.At;have KH:oo PG _ (.func (.func 60) [].toArray [.pointer (some ⟨ya,0,none⟩)].toArray) (λ _:ej=>True) (jE q):=
 ⟨60,[],_,rfl,Uo,λ sx y w1 e1 MS _=>C60 y q sx ya (⟨q.kind,q.t,q.i,gc⟩:cX) w1 MS (WO.ext e1) ⟨gc,rfl,DL.fu (AN _ (hs.aE.then e1))⟩⟩
    refine aZ Up hs (C61 _ _ _ (λ _=>True) _ _ (hs).dl KH (λ _ _=>trivial) (by have:=pj lX; omega)) (λ sB he hs=>bZ (aY (λ kz=>?_) (λ kz=>?_)))
    ·refine pop (DP) (aI (x:=(⟨0,0,0,0,0⟩:cQ)) hs.p2 eW rfl rfl (λ u7 hs=>aD eW hs.At ?_));have hs:=((((hs.drop)).drop).p1).drop;obtain ⟨rfl,rfl,rfl⟩:=pB hd CX (by simpa using kz);exact ⟨rfl,hs.mut⟩
    ·have qX:(cJ m).any (jE q)=true:=by simpa using kz
     obtain ⟨h0,t,ht⟩:=qn qX;refine aA pw (aB (v:=.int .i64 q.kind) bN hs.p3.hb rfl (aH (aC (λ ni=>?_) (λ ni=>?_))))
     ·refine aD lf hs.p3.At ?_;obtain ⟨rfl,rfl,rfl⟩:=pC hd CX qX ni ht;have hs:=hs.p1;refine bH Uq hs (H':=λ _=>en K p (mw m t q)) (Φ:=λ v _=>v=Flat.val (ph q.t (eh t.buf q.i))) (λ F2 eQ ey=>?_) ?_
      ·exact C62 K p m q (⟨q.kind,q.t,q.i,gc⟩:cX) t F2 _ eQ (λ w' hc=>hK w' (ey w' hc).aE) lX tL ⟨gc,rfl,DL.fu (AN _ hs.aE)⟩ h0 ht
      rintro _ u9 rfl hs;refine aI (x:=(ph q.t (eh t.buf q.i))) hs.p2 eW rfl rfl (λ r9 hs=>aD eW hs.At ?_);have hs:=(((hs.drop.p1).drop).p1).drop;exact ⟨rfl,hs.mut⟩
     ·refine aA jy (aB (v:=.int .i64 q.t) bN hs.p3.hb rfl ?_);obtain ⟨sQ,rfl⟩:=nh hd CX qX ni;have hs:=hs.p1;refine bH Ur hs (H':=λ _=>en K p m2) (Φ:=λ v _=>v=Flat.val ev) (λ F2 eQ ey=>?_) ?_
      ·exact C63 K p m N q.t t m2 ev F2 _ eQ (λ w' hc=>hK w' (ey w' hc).aE) lX tL h0 ht sQ
      rintro _ vT rfl hs;refine aI (x:=ev) hs.p2 eW rfl rfl (λ yO hs=>aD eW hs.At ?_);have hs:=(((hs.drop.p1).drop).p1).drop;exact ⟨rfl,hs.mut⟩
  ·have CX:iy m q=none:=by unfold iy; rw [if_neg (by exact λ h=>kM h.2.1)]
   intro fz;refine fi (have hs:=en.shut (m:=m) hu hs.p6.p6.p6.p6.p6;cZ Cu hs (C16 K p m _ hs.has (hK _ hs.aE) (λ w2 e=>hK _ (hs.aE.then e)) lX) (λ x58 pP bV hs=>?_));have WO:=hs.p3.At;have KH:oo PG _ (.func (.func 60) [].toArray [.pointer (some ⟨ya,0,none⟩)].toArray) (λ _:ej=>True) (jE q):=
 ⟨60,[],_,rfl,Uo,λ sx y w1 e1 MS _=>C60 y q sx ya (⟨q.kind,q.t,q.i,gc⟩:cX) w1 MS (WO.ext e1) ⟨gc,rfl,DL.fu (AN _ (hs.aE.then e1))⟩⟩
   refine aZ Up hs (C61 _ _ _ (λ _=>True) _ _ (hs).dl KH (λ _ _=>trivial) (by have:=pj lX; omega)) (λ sB he hs=>bZ (aY (λ kz=>?_) (λ kz=>?_)))
   ·refine pop (DP) (aI (x:=(⟨0,0,0,0,0⟩:cQ)) hs.p2 eW rfl rfl (λ u7 hs=>aD eW hs.At ?_));have hs:=((((hs.drop)).drop).p1).drop;obtain ⟨rfl,rfl,rfl⟩:=pB hd CX (by simpa using kz);exact ⟨rfl,hs.mut⟩
   ·have qX:(cJ m).any (jE q)=true:=by simpa using kz
    obtain ⟨h0,t,ht⟩:=qn qX;refine aA pw (aB (v:=.int .i64 q.kind) bN hs.p3.hb rfl (aH (aC (λ ni=>?_) (λ ni=>?_))))
    ·refine aD lf hs.p3.At ?_;obtain ⟨rfl,rfl,rfl⟩:=pC hd CX qX ni ht;have hs:=hs.p1;refine bH Uq hs (H':=λ _=>en K p (mw m t q)) (Φ:=λ v _=>v=Flat.val (ph q.t (eh t.buf q.i))) (λ F2 eQ ey=>?_) ?_
     ·exact C62 K p m q (⟨q.kind,q.t,q.i,gc⟩:cX) t F2 _ eQ (λ w' hc=>hK w' (ey w' hc).aE) lX tL ⟨gc,rfl,DL.fu (AN _ hs.aE)⟩ h0 ht
     rintro _ u9 rfl hs;refine aI (x:=(ph q.t (eh t.buf q.i))) hs.p2 eW rfl rfl (λ r9 hs=>aD eW hs.At ?_);have hs:=(((hs.drop.p1).drop).p1).drop;exact ⟨rfl,hs.mut⟩
    ·refine aA jy (aB (v:=.int .i64 q.t) bN hs.p3.hb rfl ?_);obtain ⟨sQ,rfl⟩:=nh hd CX qX ni;have hs:=hs.p1;refine bH Ur hs (H':=λ _=>en K p m2) (Φ:=λ v _=>v=Flat.val ev) (λ F2 eQ ey=>?_) ?_
     ·exact C63 K p m N q.t t m2 ev F2 _ eQ (λ w' hc=>hK w' (ey w' hc).aE) lX tL h0 ht sQ
     rintro _ vT rfl hs;refine aI (x:=ev) hs.p2 eW rfl rfl (λ yO hs=>aD eW hs.At ?_);have hs:=(((hs.drop.p1).drop).p1).drop;exact ⟨rfl,hs.mut⟩
 ·have CX:iy m q=none:=by unfold iy; rw [if_neg (by exact λ h=>gw h.1)]
  intro fz;refine fi (have hs:=en.shut (m:=m) hu hs.p6.p6.p6.p6.p6;cZ Cu hs (C16 K p m _ hs.has (hK _ hs.aE) (λ w2 e=>hK _ (hs.aE.then e)) lX) (λ x58 pP bV hs=>?_));have WO:=hs.p3.At;have KH:oo PG _ (.func (.func 60) [].toArray [.pointer (some ⟨ya,0,none⟩)].toArray) (λ _:ej=>True) (jE q):=
 ⟨60,[],_,rfl,Uo,λ sx y w1 e1 MS _=>C60 y q sx ya (⟨q.kind,q.t,q.i,gc⟩:cX) w1 MS (WO.ext e1) ⟨gc,rfl,DL.fu (AN _ (hs.aE.then e1))⟩⟩
  refine aZ Up hs (C61 _ _ _ (λ _=>True) _ _ (hs).dl KH (λ _ _=>trivial) (by have:=pj lX; omega)) (λ sB he hs=>bZ (aY (λ kz=>?_) (λ kz=>?_)))
  ·refine pop (DP) (aI (x:=(⟨0,0,0,0,0⟩:cQ)) hs.p2 eW rfl rfl (λ u7 hs=>aD eW hs.At ?_));have hs:=((((hs.drop)).drop).p1).drop;obtain ⟨rfl,rfl,rfl⟩:=pB hd CX (by simpa using kz);exact ⟨rfl,hs.mut⟩
  ·have qX:(cJ m).any (jE q)=true:=by simpa using kz
   obtain ⟨h0,t,ht⟩:=qn qX;refine aA pw (aB (v:=.int .i64 q.kind) bN hs.p3.hb rfl (aH (aC (λ ni=>?_) (λ ni=>?_))))
   ·refine aD lf hs.p3.At ?_;obtain ⟨rfl,rfl,rfl⟩:=pC hd CX qX ni ht;have hs:=hs.p1;refine bH Uq hs (H':=λ _=>en K p (mw m t q)) (Φ:=λ v _=>v=Flat.val (ph q.t (eh t.buf q.i))) (λ F2 eQ ey=>?_) ?_
    ·exact C62 K p m q (⟨q.kind,q.t,q.i,gc⟩:cX) t F2 _ eQ (λ w' hc=>hK w' (ey w' hc).aE) lX tL ⟨gc,rfl,DL.fu (AN _ hs.aE)⟩ h0 ht
    rintro _ u9 rfl hs;refine aI (x:=(ph q.t (eh t.buf q.i))) hs.p2 eW rfl rfl (λ r9 hs=>aD eW hs.At ?_);have hs:=(((hs.drop.p1).drop).p1).drop;exact ⟨rfl,hs.mut⟩
   ·refine aA jy (aB (v:=.int .i64 q.t) bN hs.p3.hb rfl ?_);obtain ⟨sQ,rfl⟩:=nh hd CX qX ni;have hs:=hs.p1;refine bH Ur hs (H':=λ _=>en K p m2) (Φ:=λ v _=>v=Flat.val ev) (λ F2 eQ ey=>?_) ?_
    ·exact C63 K p m N q.t t m2 ev F2 _ eQ (λ w' hc=>hK w' (ey w' hc).aE) lX tL h0 ht sQ
    rintro _ vT rfl hs;refine aI (x:=ev) hs.p2 eW rfl rfl (λ yO hs=>aD eW hs.At ?_);have hs:=(((hs.drop.p1).drop).p1).drop;exact ⟨rfl,hs.mut⟩
def Cl (t:fF):Bool:=(gO t).isNone && decide (t.buf.length=0)
def uH (m:gr):Bool:=decide (m.fault=0) && !(List.range m.l.length).any λ i=>match m.l[i]? with | some t=>!Cl t | none=>false
def zm (m:gr):Bool:=decide (m.fault=0) && (!uH m && decide (((cJ m).length:Int)=0))
def pD (m:gr):iG:=⟨m.ew,m.fault,m.mv,uH m,zm m⟩
def zn (m:gr) (l:List nx):Bool:=decide ((runM l (m.mem.l.take m.u.stays.toNat)).2=0) && decide ((runM l (m.mem.l.take m.u.stays.toNat)).1≠0)
def Da (m:gr):List Bool:=m.u.cC.map (zn m)
theorem tP.ext {w w':World} {b:Nat} {cs:List Value} (h:tP w b cs) (e:Ext w w'):tP w' b cs:=h.of_eq (e.cE b h.lt λ h=>h)
theorem OJ {a:MA} {m:gr} (h1:rZ a.lk=true) (h2:rZ a.ll=true):∀ v∈jZ a m,rZ v=true:=by
 intro v hv
 simp only [List.mem_cons,List.not_mem_nil,or_false] at hv
 rcases hv with rfl | rfl | rfl | rfl | rfl | rfl | rfl | rfl | rfl | rfl | rfl | rfl | rfl | rfl | rfl | rfl <;> first | rfl | exact h1 | exact h2
theorem OK {bp:Nat} {c:fq} {gl rg cn:Value} {x f e g:Int} (h1:rZ gl=true) (h2:rZ rg=true) (h3:rZ cn=true) :
  ∀ v∈[Value.pointer (some ⟨bp,0,none⟩),.int .i64 c.aN,.int .i64 c.counts,gl,.int .i64 x,rg,cn,.int .i64 f,.int .i64 e,.int .i64 g],rZ v=true:=by
 intro v hv
 simp only [List.mem_cons,List.not_mem_nil,or_false] at hv
 rcases hv with rfl | rfl | rfl | rfl | rfl | rfl | rfl | rfl | rfl | rfl <;> first | rfl | exact h1 | exact h2 | exact h3
theorem Hu {n k:Nat} (h:k<n):(List.range n)[k]? = some k:=List.getElem?_range h
theorem C64 (K:World→Prop) (p:Nat) (room:Int) (t:fF) (w:World) (hh:Has (eI K p room t) w) (uN:∀ w',Ext w w'→K w') (nP:Ho t):CR 64 [(.pointer (some ⟨p,0,none⟩))] w (λ v w'=>v = .bool (Cl t)∧Ext w w'):=by
 obtain ⟨bp,gl,rg,cn,_,oG,hB,BB,Y9⟩:=eI.rd hh;have Xu:=oG.cell (o:=0) rfl;have hs:=St.start w;refine aid _ _ _ ?_;unfold S64;refine ed Zz (C65 K p room t _ (hh.ext hs.aE) (uN _ hs.aE) nP) ?_;rintro v_x7 w1 ar4
 rcases ar4 with ⟨vH,rfl,he⟩ | ⟨x,xv,vH,hxv,rfl,he⟩
 ·have hs:=hs.ext he;refine bE rfl (bE rfl (aJ hs mE (λ Ls w2 hs=>have hs:=hs.enc (cs':=Flat.enc (⟨0,0,0,⟨none,0,0⟩,⟨none,0,0⟩,0⟩:bU)) rfl;aI (x:=(⟨0,0,0,⟨none,0,0⟩,⟨none,0,0⟩,0⟩:bU)) hs lL rfl rfl (λ w3 hs=>?_))));refine ⟨_,?_,λ _ _ h=>h⟩;refine bZ (nX (aZ aiq hs (C66 K p room t _ (hh.ext hs.aE) nP.bl) (λ w4 he hs=>?_)));intro fz;refine ⟨vb ?_,by first | exact hs.aE | exact hs.drop.aE⟩;unfold Cl;rw [vH]
  rfl
 ·have hs:=hs.ext he;obtain ⟨ge,gf,rfl,_,_⟩:=hxv _ (uN _ hs.aE);refine bE rfl (bE rfl (aJ hs mE (λ Ls w2 hs=>have hs:=hs.enc (cs':=Flat.enc (⟨0,0,0,⟨none,0,0⟩,⟨none,0,0⟩,0⟩:bU)) rfl;aI (x:=(⟨x.kind,x.a,x.b,ge,gf,x.to⟩:bU)) hs lL rfl rfl (λ w3 hs=>?_))));refine ⟨_,?_,λ _ _ h=>h⟩;refine bZ (fi ?_);intro fz;refine ⟨vb ?_,by first | exact hs.aE | exact hs.drop.aE⟩;unfold Cl;rw [vH]
  rfl
theorem C68 (K:World→Prop) (p:Nat) (room:Int) (t:fF) (b:Nat) (w:World) (hh:Has (eI K p room t) w) (uN:∀ w',Ext w w'→K w') (nP:Ho t) (hc:Cell w b 0 (OF 64)):CR 68 [(.pointer (some ⟨p,0,none⟩)),(.pointer (some ⟨b,0,none⟩))] w (λ v w'=>v = .bool (!Cl t)∧Ext w w'):=by
 have hs:=St.start w;refine aii _ _ _ _ ?_;unfold S68;refine cD afK (hc.ext hs.aE) (ga (first:=[]) (cap:=[]) avh (C64 K p room t _ (hh.ext hs.aE) (λ w2 e=>uN _ (Ext.trans hs.aE e)) nP) ?_);rintro _ w1 ⟨rfl,he⟩;have hs:=hs.ext he;refine bZ ?_;exact ⟨rfl,hs.aE⟩
theorem C136 (sv:Value) (ps:List Ptr) (g0:Nat) (first cap:List Value) (g:Nat→Bool) (w:World) (hL:eE (λ _=>True) w sv ps) (vz:Plain PG g0) (lY:∀ (i:Nat) (s:Ptr) (w1:World),ps[i]? = some s→Ext w w1→Calls PG g0 (first++[Flat.val s]++cap).toArray w1 (qf λ v w2=>v = .bool (g i)∧Ext w1 w2)) (hn:ps.length≤1073741824):CR 136 [sv,(.func (.func g0) first.toArray cap.toArray)] w (λ v w'=>v = .int .i64 (va g (List.range ps.length))∧Ext w w'):=by
 have hs:=St.start w;refine Z9 _ _ _ _ ?_;unfold S136;refine aK qx (hL.ext hs.aE) ?_;refine ⟨λ m x w1=>∃ k:Nat,x = .int .i64 (k:Int)∧m=ps.length - k∧k≤ps.length∧(∀ y∈(List.range ps.length).take k,g y=false)∧St w bD [] w1,⟨_,0,rfl,rfl,Nat.zero_le _,by simp,hs⟩,?_⟩;rintro m _ w1 ⟨k,rfl,rfl,hk,fS,hs⟩ fz;refine aR (aC (λ gw=>?_) (λ gw=>?_))
 ·obtain ⟨jr,dG⟩:=gx (ps) (i:=((k:Int)).toNat) (by omega);refine aQ qx hL (by omega) dG (λ _ iS=>aD zQ (iS.ext hs.aE) (ga vz (lY k jr w1 dG hs.aE) ?_));rintro _ w2 ⟨rfl,he⟩;have hs:=hs.ext he;refine aY (λ eF=>?_) (λ eF=>?_)
  ·exact ⟨congrArg (Value.int .i64) (py fS (Hu (by omega)) eF).symm,hs.aE⟩
  ·refine aO (by omega) ?_;exact ⟨_,by omega,k+1,rfl,rfl,by omega,eH fS (Hu (by omega)) eF,hs⟩
 ·exact ⟨congrArg (Value.int .i64) (ky (by rw [List.take_of_length_le (by rw [List.length_range]; omega)] at fS; exact fS)).symm,hs.aE⟩
theorem C67 (sv:Value) (ps:List Ptr) (g0:Nat) (first cap:List Value) (g:Nat→Bool) (w:World) (hL:eE (λ _=>True) w sv ps) (vz:Plain PG g0) (lY:∀ (i:Nat) (s:Ptr) (w1:World),ps[i]? = some s→Ext w w1→Calls PG g0 (first++[Flat.val s]++cap).toArray w1 (qf λ v w2=>v = .bool (g i)∧Ext w1 w2)) (hn:ps.length≤1073741824):CR 67 [sv,(.func (.func g0) first.toArray cap.toArray)] w (λ v w'=>v = .bool ((List.range ps.length).any g)∧Ext w w'):=by
 have hs:=St.start w;refine aih _ _ _ _ ?_;unfold S67;refine aZ anK hs (C136 _ ps g0 first cap g _ (hL.ext hs.aE) vz (λ i s2 w2 h e=>lY i s2 w2 h (Ext.trans hs.aE e)) (by omega)) (λ w1 he hs=>dH ?_);exact ⟨vb (oq _ _),hs.aE⟩
theorem C18 (K:World→Prop) (p:Nat) (m:gr) (w:World) (hm:Has (en K p m) w) (hw:K w) (uN:∀ w',Ext w w'→K w') (lX:qG m):CR 18 [(.pointer (some ⟨p,0,none⟩))] w (λ v w'=>v=Flat.val (pD m)∧Ext w w'):=by
 obtain ⟨a,hr⟩:=en.rd hm hw;have Za:=hr.b.cell (o:=8) rfl;have cm0:=hr.b.cell (o:=0) rfl;have Xv:=hr.b.cell (o:=1) rfl;have cm3:=hr.b.cell (o:=3) rfl;have cm9:=hr.b.cell (o:=9) rfl;have BO:=hr.b.cell (o:=10) rfl;have CF:=hr.b.cell (o:=11) rfl;have yg:=hr.b.cell (o:=12) rfl;have Fi:=hr.b.cell (o:=13) rfl;have zh:=hr.b.cell (o:=14) rfl;have Fj:=hr.b.cell (o:=15) rfl;have hs:=St.start w;refine ahy _ _ _ ?_;unfold S18;refine aJ hs DH (λ ma w1 hs=>yJ hs ab1 rfl (λ Ji w2 hs=>aV hs afK (eL rfl) (rfl) (λ w3 hs=>aF (aA DI (have hs:=hs.drew;cD bN (Fi.ext hs.aE) (aF (aA n8 (cD bN (zh.ext hs.aE) (aF (aA DJ (cD bN (Fj.ext hs.aE) (pop (KD _ _ _) ?_))))))))))))
 refine aJ hs DH (λ ar5 w4 hs=>?_);refine ⟨aG bN (Fi.ext hs.aE),?_⟩;refine ⟨aG bN (zh.ext hs.aE),?_⟩;refine ⟨aG bN (Fj.ext hs.aE),?_⟩;refine aI (x:=(⟨m.ew,m.fault,m.mv,false,false⟩:iG)) hs DG rfl rfl (λ w5 hs=>?_);refine ⟨λ w'=>St w bD [cE ar5 (Flat.enc (⟨m.ew,m.fault,m.mv,uH m,false⟩:iG)),cE Ji [OF 64],cE ma (Flat.enc (⟨0,0,0,false,false⟩:iG))] w',?_,?_⟩
 ·refine aF (aA n8 (cD bN (zh.ext hs.aE) (aH (aC (λ iu=>?_) (λ iu=>?_)))))
  ·refine aF (aA jl (cD pI (yg.ext hs.aE) ?_));refine aZ avi hs (C67 _ a.ps 68 [] [.pointer (some ⟨Ji,0,none⟩)] (λ i=>match m.l[i]? with | some t=>!Cl t | none=>false) _ (hr.ll.ext hs.aE) avj (λ i s2 w2 h e=>by
  obtain ⟨t,ht⟩:∃ t,m.l[i]? = some t:=⟨_,List.getElem?_eq_getElem (by have:=(List.getElem?_eq_some_iff.1 h).1; have:=hr.len; omega)⟩;rw [ht]
  exact C68 K s2.b m.room t Ji w2 ((hr.th i s2 t h ht).ext (Ext.trans hs.aE e)) (λ w3 e3=>uN _ (Ext.trans (Ext.trans hs.aE e) e3)) (lX.th t (List.mem_of_getElem? ht)) ((hs.p1.hb.cell rfl).ext e)) (by have:=hr.len; have:=lX.tl; omega)) (λ w6 he hs=>?_)
   refine bZ (aA Ip (aV hs TQ (eL rfl) (rfl) (λ w7 hs=>?_)));have hs:=hs.enc (cs':=Flat.enc ({ (⟨m.ew,m.fault,m.mv,false,false⟩:iG) with done:=(!((List.range a.ps.length).any (λ i=>match m.l[i]? with | some t=>!Cl t | none=>false)))}:iG)) rfl;have hs:=hs.p2.p2.p2;have hdm:uH m = !((List.range a.ps.length).any (λ i=>match m.l[i]? with | some t=>!Cl t | none=>false)):=by unfold uH; rw [decide_eq_true iu,hr.len]; rfl
   rw [hdm];exact hs
  ·refine aA Ip (aV hs TQ (eL rfl) (rfl) (λ w8 hs=>?_));have hs:=hs.enc (cs':=Flat.enc ({ (⟨m.ew,m.fault,m.mv,false,false⟩:iG) with done:=false}:iG)) rfl;have hs:=hs.p2.p2.p2;have hdm:uH m=false:=by unfold uH; rw [decide_eq_false iu]; rfl
   rw [hdm];exact hs
 ·intro w9 hs fz;refine ⟨λ w'=>St w bD [cE ar5 (Flat.enc (pD m)),cE ma (Flat.enc (⟨0,0,0,false,false⟩:iG))] w',?_,?_⟩
  ·refine aF (aA n8 (cD bN (zh.ext hs.aE) (aH (aC (λ uh=>?_) (λ uh=>?_)))))
   ·refine aA Ip (aB (v:=.bool (((⟨m.ew,m.fault,m.mv,uH m,false⟩:iG)).done)) TQ hs.hb rfl (bZ (aY (λ j3=>?_) (λ j3=>?_))))
    ·refine cZ Cu hs (C16 K p m _ (hm.ext hs.aE) (uN _ hs.aE) (λ w2 e=>uN _ (Ext.trans hs.aE e)) lX) (λ x45 pP bV hs=>?_);obtain ⟨ay5,akW,akX,_⟩:=(hs).dl;refine aK nZ akW ?_;rw [akX];refine aH (aA Iq (aV hs.p1 TQ (eL rfl) (rfl) (λ sB hs=>?_)));have hs:=hs.enc (cs':=Flat.enc ({ (⟨m.ew,m.fault,m.mv,uH m,false⟩:iG) with stuck:=(decide (((cJ m).length:Int)=0))}:iG)) rfl;have hs:=((hs.p1.drop.p1.drop).p1).p1;have hsm:zm m=(decide (((cJ m).length:Int)=0)):=by unfold zm; rw [decide_eq_true uh,show uH m=false from by simpa using j3]; rfl
     unfold pD;rw [hsm];exact hs
    ·refine aA Iq (aV hs TQ (eL rfl) (rfl) (λ u7 hs=>?_));have hs:=hs.enc (cs':=Flat.enc ({ (⟨m.ew,m.fault,m.mv,uH m,false⟩:iG) with stuck:=false}:iG)) rfl;have hs:=(hs.p1.drop.p1).p1;have hsm:zm m=false:=by unfold zm; rw [show uH m=true from by simpa using j3]; simp
     unfold pD;rw [hsm];exact hs
   ·refine aA Iq (aV hs TQ (eL rfl) (rfl) (λ u9 hs=>?_));have hs:=hs.enc (cs':=Flat.enc ({ (⟨m.ew,m.fault,m.mv,uH m,false⟩:iG) with stuck:=false}:iG)) rfl;have hs:=(hs.p1.drop.p1).p1;have hsm:zm m=false:=by unfold zm; rw [decide_eq_false uh]; rfl
    unfold pD;rw [hsm];exact hs
  ·intro r9 hs jB;refine aD DG hs.At (aI (x:=(pD m)) hs.p1 DG rfl rfl (λ vT hs=>aD DG hs.At ?_));have hs:=((hs.drop)).drop;exact ⟨rfl,hs.aE⟩
theorem C49 (K:World→Prop) (p:Nat) (m:gr) (w:World) (hm:Has (en K p m) w) (hw:K w) (uN:∀ w',Ext w w'→K w') (lX:qG m) (QK:m.u.cC.length≤1000) (hcz:∀ l∈m.u.cC,l.length≤1000) (gn:0≤m.u.stays∧m.u.stays≤m.mem.l.length):CR 49 [(.pointer (some ⟨p,0,none⟩))] w (λ v w'=>lW (bK v (Da m)) w w'):=by
 obtain ⟨a,hr⟩:=en.rd hm hw;have Za:=hr.b.cell (o:=8) rfl;have cm0:=hr.b.cell (o:=0) rfl;have Xv:=hr.b.cell (o:=1) rfl;have cm3:=hr.b.cell (o:=3) rfl;have cm9:=hr.b.cell (o:=9) rfl;have BO:=hr.b.cell (o:=10) rfl;have CF:=hr.b.cell (o:=11) rfl;have yg:=hr.b.cell (o:=12) rfl;have Fi:=hr.b.cell (o:=13) rfl;have zh:=hr.b.cell (o:=14) rfl;have Fj:=hr.b.cell (o:=15) rfl;have ay6:=hr.uk.cl _ hw;have hs:=St.start w;refine ahY _ _ _ ?_;unfold S49;refine aF (aA tU (aA xl (cD Se (Za.ext hs.aE) ?_)));obtain ⟨ar6,agZ,ag0⟩:=(ay6).open;have hn130:=ag0.1;refine aK FX (agZ.ext hs.aE) ?_
 have hs:=hs.fU (α:=Bool);refine ⟨λ mm o x w1=>∃ k:Nat,x = .int .i64 (k:Int)∧mm=m.u.cC.length - k∧k≤m.u.cC.length∧St w bD [bK o ((m.u.cC.take k).map (zn m))] w1,⟨_,0,rfl,rfl,Nat.zero_le _,hs⟩,?_⟩;rintro mm fW _ w1 ⟨k,rfl,rfl,hk,hs⟩ fz;refine aR (aC (λ js=>?_) (λ js=>?_))
 ·refine ⟨λ o w'=>St w bD [bK o ((m.u.cC.take (k+1)).map (zn m))] w',?_,?_⟩
  ·obtain ⟨G4,kT⟩:=gx ar6 (i:=((k:Int)).toNat) (by omega);obtain ⟨mI,kU⟩:=gx (m.u.cC) (i:=((k:Int)).toNat) (by omega);have VN:DL w (Flat.val G4) mI:=ag0.2 _ _ _ kT kU;refine aQ FX agZ (by omega) kT (λ _ ug=>aD xV (ug.ext hs.aE) ?_);have ar7:=DL.flat (VN);refine aF (aA tU (aA pq (have hs:=hs.drew;cD bN (Xv.ext hs.aE) (cZ Zw hs (C22 K p m _ (hm.ext hs.aE) (uN _ hs.aE) (λ w2 e=>uN _ (Ext.trans hs.aE e)) lX) (λ VO w2 bV hs=>?_)))));refine ⟨aG bN (Xv.ext hs.aE),?_⟩;refine l8 ek (hs).fB (by omega) (by omega) (λ Qx Bz=>aZ afd hs (C110 _ _ mI (m.mem.l.take (m.u.stays).toNat) _ (ar7.ext hs.aE) (Bz _ (hs).fB) (by have:=hcz _ (List.mem_of_getElem? kU); omega)) (λ w3 he hs=>bE rfl (bE rfl (aH (aC (λ nH=>?_) (λ nH=>?_))))))
   ·refine cO (bX ([decide ((runM mI (m.mem.l.take m.u.stays.toNat)).1≠0)]) hs ym rfl rfl (eL rfl) (λ aga w4 hs=>?_));have E3:=(hs).fB;refine cP hs.p2 ym E3 (by simp; omega) (by decide) (λ agm w5 hs=>?_);have hs:=hs.p1.drop.p1.drop;rw [← iU (k:=k) kU];have SI:zn m mI=decide ((runM mI (m.mem.l.take m.u.stays.toNat)).1≠0):=by unfold zn; rw [decide_eq_true nH]; rfl
    rw [SI];exact hs
   ·refine bX ([false]) hs ym rfl rfl (eL rfl) (λ aug w6 hs=>?_);have XM:=(hs).fB;refine cP hs.p2 ym XM (by simp; omega) (by decide) (λ auh w7 hs=>?_);have hs:=hs.p1.drop.p1.drop;rw [← iU (k:=k) kU];have SI:zn m mI=false:=by unfold zn; rw [decide_eq_false nH]; rfl
    rw [SI];exact hs
  ·intro nq w8 hs jB;refine aO (by omega) ?_;exact ⟨_,by omega,k+1,rfl,rfl,by omega,hs⟩
 ·rw [List.take_of_length_le (by omega)] at hs;exact hs.fresh
set_option maxHeartbeats 1000000 in
theorem C19 (K:World→Prop) (p:Nat) (m:gr) (w:World) (hm:Has (en K p m) w) (hw:K w) (uN:∀ w',Ext w w'→K w') (lX:qG m) (tL:MB m.mem 1000000) (akY:m.u.locks≤1000):CR 19 [(.pointer (some ⟨p,0,none⟩))] w (λ v w'=>∃ b,v = .pointer (some ⟨b,0,none⟩)∧lW (en K b m) w w'):=by
 obtain ⟨a,hr⟩:=en.rd hm hw;have Za:=hr.b.cell (o:=8) rfl;have cm0:=hr.b.cell (o:=0) rfl;have Xv:=hr.b.cell (o:=1) rfl;have cm3:=hr.b.cell (o:=3) rfl;have cm9:=hr.b.cell (o:=9) rfl;have BO:=hr.b.cell (o:=10) rfl;have CF:=hr.b.cell (o:=11) rfl;have yg:=hr.b.cell (o:=12) rfl;have Fi:=hr.b.cell (o:=13) rfl;have zh:=hr.b.cell (o:=14) rfl;have Fj:=hr.b.cell (o:=15) rfl;have hrl0:=hr.len;have htl0:=lX.tl;obtain ⟨ovs,hov⟩:=((hr.uk.mem _ hw).1).fR;obtain ⟨fvs,hfv⟩:=((hr.uk.mem _ hw).2).fR;have yl:=hr.c0;have CC:=hr.c1;rw [hov] at yl;rw [hfv] at CC;have hs:=St.start w;refine ahz _ _ _ ?_;unfold S19;refine aF (re afJ hr.b rfl (aJ hs ab0 (λ ar8 w1 hs=>pF (vs:=jZ a m) hs afJ rfl (by simp) (OJ hr.lk.one hr.ll.one) (λ w2 hs=>have hs:=hs.enc (cs':=jZ a m) rfl;aF (aA jM (have hs:=hs.drew;cD so (BO.ext hs.aE) (aF (aA n7 (cD eA (CF.ext hs.aE) (ed avk (C69 a.q m.mem ovs fvs _ (yl.ext hs.aE) (CC.ext hs.aE) (hr.mem.ext hs.aE) lX.mem tL) ?_))))))))))
 rintro _ w3 ⟨b2,rfl,bV⟩;have hs:=hs.made bV;refine ⟨aG eA (CF.ext hs.aE),?_⟩;refine cZ zG hs (C70 _ _ _ (hr.lk.ext hs.aE) (by have akS:=lX.lk; have:=akY; omega)) (λ x19 w4 bV hs=>aA jM (aV hs.p2 so (eL rfl) (rfl) (λ w5 hs=>aA n7 (aV hs eA (eL rfl) ((hs.p1).fB.one) (λ w6 hs=>aA jl (aV hs pI (eL rfl) (rfl) (λ w7 hs=>aF (aA jl (cD pI (yg.ext hs.aE) (aK qx (hr.ll.ext hs.aE) ?_))))))))));obtain ⟨IU,rfl⟩:=(hs.p1).fR;obtain ⟨lk2,ay8⟩:∃ l,l=IU:=⟨_,rfl⟩;subst ay8;have hs:=((((((hs.KP (H:=qm K m.room)).fU (α:=Ptr)).p4).p4).p3).p3).p4
 refine ⟨λ mm x w'=>∃ (j:Nat) (XJ:Value) (ps2:List Ptr),x = .int .i64 (j:Int)∧mm=a.ps.length - j∧j≤a.ps.length∧St w bD [cE ar8 (jZ {a with q:=b2,lk:=Flat.val lk2,ll:=XJ} m),bK XJ ps2,iF (qm K m.room) ps2 (m.l.take j),bK (Flat.val lk2) m.locks,fV b2 (Flat.val ovs) (Flat.val fvs) m.mem] w',⟨_,0,.slice none 0 0,[],rfl,rfl,Nat.zero_le _,hs⟩,?_⟩;rintro mm _ w8 ⟨j,XJ,ps2,rfl,rfl,hj1,hs⟩ fz;refine aR (aC (λ VM=>?_) (λ VM=>?_))
 ·obtain ⟨Ef,lG⟩:=gx (a.ps) (i:=((j:Int)).toNat) (by omega);refine aQ qx hr.ll (by omega) lG (λ _ ow=>aD zQ (ow.ext hs.aE) ?_);obtain ⟨t,ht⟩:∃ t,m.l[j]? = some t:=⟨_,List.getElem?_eq_getElem (by have:=hr.len; omega)⟩;have CE:=List.mem_of_getElem? ht;have nP:=lX.th t CE;have yQ:=nP.bl;have arN:=nP.rg;have hcn1:=nP.cn;have Zb:=nP.code.rb;have hcb:=nP.code.cb;obtain ⟨bp,gl,rg,cn,qT,oG,hB,BB,Y9⟩:=eI.rd (hr.th j _ _ lG ht);obtain ⟨ts0,hts⟩:=id qT;have Xu:=oG.cell (o:=0) rfl;have ct5:=oG.cell (o:=5) rfl;have ct6:=oG.cell (o:=6) rfl;refine aF (re afL (tP.ext oG hs.aE) rfl (aJ hs ab2 (λ akZ w9 hs=>pF (vs:=[.pointer (some ⟨bp,0,none⟩),.int .i64 t.code.aN,.int .i64 t.code.counts,gl,.int .i64 t.at_,rg,cn,.int .i64 t.fault,.int .i64 t.e,.int .i64 t.f]) hs afL rfl (by simp) (OK ((hts _ hw).1).one BB.one Y9.one) (λ pP hs=>have hs:=hs.enc (cs':=[.pointer (some ⟨bp,0,none⟩),.int .i64 t.code.aN,.int .i64 t.code.counts,gl,.int .i64 t.at_,rg,cn,.int .i64 t.fault,.int .i64 t.e,.int .i64 t.f]) rfl;aF (aA mY (have hs:=hs.drew;cD rh (Xu.ext hs.aE) (aF (aA pJ (cD eA (ct5.ext hs.aE) (aF (aA wb (cD eA (ct6.ext hs.aE) ?_))))))))))))
  refine ed avl (C71 bp m.room t.buf _ (hB.ext hs.aE) (by omega)) ?_;rintro _ sB ⟨bq,rfl,bV⟩;have hs:=hs.made bV;refine ⟨aG eA (ct5.ext hs.aE),?_⟩;refine ⟨aG eA (ct6.ext hs.aE),?_⟩;refine cZ zG hs (C70 _ _ _ (BB.ext hs.aE) (by have akS:=lX.lk; have:=akY; omega)) (λ x44 u7 bV hs=>?_);refine ⟨aG eA (ct6.ext hs.aE),?_⟩;refine cZ zG hs (C70 _ _ _ (Y9.ext hs.aE) (by have akS:=lX.lk; have:=akY; omega)) (λ x49 u9 bV hs=>aA mY (aV hs.p3 rh (eL rfl) (rfl) (λ r9 hs=>aA pJ (aV hs eA (eL rfl) ((hs.p2).fB.one) (λ vT hs=>aA wb (aV hs eA (eL rfl) ((hs.p1).fB.one) (λ yO hs=>aA jl ?_)))))))
  have vz:=(hs.p6).lu;refine aB pI hs.p4.hb rfl (bX ([(⟨akZ⟩:Ptr)]) hs qx rfl rfl (eL rfl) (λ arq B6 hs=>?_));have ak0:=(hs).fB;refine cP hs.p6 qx ak0 (by rw [List.length_take] at vz; have:=lX.tl; simp; omega) (by decide) (λ asa GQ hs=>have hs:=hs.p1.drop;aA jl (aV hs.p5 pI (eL rfl) ((hs).fB.one) (λ IF hs=>aO (by omega) ?_)));have hs:=eI.shut (room:=m.room) (t:=t) qT hs.p3.p4.p5.p5;have vz:=(hs.p3).lu;have hs:=(((((St.D5 (H:=qm K m.room) (p:=⟨akZ⟩) (x:=t) hs.p3).p4).p4).p2).p4).p4;exact ⟨_,by omega,j+1,asa,ps2++[⟨akZ⟩],rfl,rfl,by omega,by rw [← gZ (k:=j) ht]; exact hs⟩
 ·have hs:=hs.p2.p2.p3.p4.p4;rw [List.take_of_length_le (by have:=hr.len; omega)] at hs;rw [← hov,← hfv] at hs;exact ⟨ar8,rfl,(en.shut (m:=m) (a:={a with q:=b2,lk:=Flat.val lk2,ll:=XJ,ps:=ps2}) ⟨hr.uk.ln,hr.uk.cl,hr.uk.rc,hr.uk.mem⟩ hs).fresh⟩
def BS (s:ByteArray) (a:Int) (t:ByteArray):Bool:=decide (a+t.size≤s.size) && decide (s.extract a.toNat (a+t.size).toNat=t)
def whF (p:UInt8→Bool) (s:ByteArray):Nat→Nat→Nat
 | 0,a=>a
 | n+1,a=>match (lr s)[a]? with
  | some c=>if p c=true then whF p s n (a+1) else a
  | none=>a
def vU (p:UInt8→Bool) (s:ByteArray) (a:Nat):Nat:=whF p s (s.size - a) a
section
variable {p:UInt8→Bool} {s:ByteArray} {k:Nat} {c:UInt8}
theorem Jj (h:s.size≤k):vU p s k=k:=by unfold vU; rw [show s.size - k=0 from by omega]; rfl
theorem qo (h:(lr s)[k]? = some c):k<s.size:=by have:=(List.getElem?_eq_some_iff.1 h).1; rw [dZ] at this; exact this
theorem Fl (h:(lr s)[k]? = some c) (hp:p c=true):vU p s k=vU p s (k+1):=by
 have hk:=qo h
 unfold vU
 rw [show s.size - k=(s.size - (k+1))+1 from by omega,whF,h]
 dsimp only
 rw [if_pos hp]
theorem Fm (h:(lr s)[k]? = some c) (hp:p c=false):vU p s k=k:=by
 have hk:=qo h
 unfold vU
 rw [show s.size - k=(s.size - (k+1))+1 from by omega,whF,h]
 dsimp only
 rw [hp]; rfl
end
def tH (c:UInt8):Bool:=decide (c.toNat=32∨c.toNat=9∨c.toNat=10∨c.toNat=13)
def yD (c:UInt8):Bool:=decide (c.toNat≠10)
def rS (c:UInt8):Bool:=jA c.toNat || ny c.toNat
def vR (c:UInt8):Bool:=ny c.toNat
def kP (s:ByteArray):Nat→Nat→Option Nat
 | 0,_=>none
 | n+1,a=>match (lr s)[a]? with
  | none=>some a
  | some c=>if tH c=true then kP s n (a+1) else if BS s a ⟨#[47,47]⟩=true then kP s n (vU yD s a) else some a
theorem OL {s:ByteArray} {n a r:Nat} (h:kP s n a=some r):∃ k,n=k+1:=by
 cases n with
 | zero=>cases h
 | succ k=>exact ⟨k,rfl⟩
section
variable {s:ByteArray} {n a r:Nat} {c:UInt8}
theorem SZ (h:kP s (n+1) a=some r) (ha:s.size≤a):r=a:=by
 unfold kP at h; rw [List.getElem?_eq_none (by rw [dZ]; exact ha)] at h; exact (Option.some.inj h).symm
theorem Cm (h:kP s (n+1) a=some r) (hc:(lr s)[a]? = some c) (hb:tH c=true):kP s n (a+1)=some r:=by
 unfold kP at h; rw [hc] at h; dsimp only at h; rw [if_pos hb] at h; exact h
theorem Hv (h:kP s (n+1) a=some r) (hc:(lr s)[a]? = some c) (hb:tH c=false) (hr:BS s a ⟨#[47,47]⟩=true):kP s n (vU yD s a)=some r:=by
 unfold kP at h; rw [hc] at h; dsimp only at h; rw [if_neg (by rw [hb]; simp),if_pos hr] at h; exact h
theorem Mb (h:kP s (n+1) a=some r) (hc:(lr s)[a]? = some c) (hb:tH c=false) (hr:BS s a ⟨#[47,47]⟩=false):r=a:=by
 unfold kP at h; rw [hc] at h; dsimp only at h; rw [if_neg (by rw [hb]; simp),if_neg (by rw [hr]; simp)] at h; exact (Option.some.inj h).symm
theorem XN:∀ (n a:Nat) (p:UInt8→Bool),a≤whF p s n a∧whF p s n a≤max a s.size
 | 0,a,p=>⟨Nat.le_refl _,by unfold whF; omega⟩
 | n+1,a,p=>by
  unfold whF
  cases h:(lr s)[a]? with
  | none=>exact ⟨Nat.le_refl _,by dsimp only; omega⟩
  | some c=>
   dsimp only
   split
   ·have:=XN n (a+1) p; have:=qo h; omega
   ·exact ⟨Nat.le_refl _,by omega⟩
theorem OM (p:UInt8→Bool):a≤vU p s a∧vU p s a≤max a s.size:=XN _ _ _
theorem AQ:∀ {n a r:Nat},kP s n a=some r→a≤s.size→a≤r∧r≤s.size
 | 0,_,_,h,_=>by cases h
 | n+1,a,r,h,ha=>by
  cases hc:(lr s)[a]? with
  | none=>unfold kP at h; rw [hc] at h; obtain rfl:=Option.some.inj h; omega
  | some c=>
   have hk:=qo hc
   cases hb:tH c with
   | true=>have:=AQ (Cm h hc hb) (by omega); omega
   | false=>
    cases hr:BS s a ⟨#[47,47]⟩ with
    | true=>have h1:=OM (s:=s) (a:=a) yD; have:=AQ (Hv h hc hb hr) (by omega); omega
    | false=>have:=Mb h hc hb hr; omega
end
def CG:List ByteArray:=[⟨#[61,61]⟩,⟨#[33,61]⟩,⟨#[60,61]⟩,⟨#[38,38]⟩,⟨#[124,124]⟩]
def qc (s:ByteArray) (a:Nat) (c:UInt8):Int:=if CG.any (BS s a)=true then 2 else if (lr (ByteArray.mk #[40,41,123,125,59,44,61,60,33,43,45,42,47,37])).any (λ x=>decide ((x.toNat:Int)=c.toNat))=true then 1 else 0
def sR (l:List bI) (i:Int) (t:ByteArray):Bool:=decide (0≤i) && (match l[i.toNat]? with | some x=>decide (x.text=t) && decide (x.kind≠2) && decide (1≤x.kind) && decide (x.kind≤3) | none=>false)
def mQ (l:List bI) (i:Int):Int:=match (if 0≤i then l[i.toNat]? else none) with
 | some x=>x.at_
 | none=>match l.getLast? with
  | some x=>x.at_+x.text.size
  | none=>0
theorem aed:∀ t∈CG,t.size≤1000000:=by decide
theorem rT {l:List bI} {i:Int} {t:ByteArray} (h:sR l i t=true):0≤i∧i<l.length:=by
 unfold sR at h
 rw [Bool.and_eq_true,decide_eq_true_eq] at h
 refine ⟨h.1,?_⟩
 cases hx:l[i.toNat]? with
 | none=>rw [hx] at h; cases h.2
 | some x=>have:=(List.getElem?_eq_some_iff.1 hx).1; omega
theorem C232 (s t:ByteArray) (i:Int) (w:World) (hz:s.size≤1000000) (hz2:t.size≤1000000) (h0:0≤i∧i≤2000000):CR 232 [.string s,.int .i64 i,.string t] w (λ v w'=>v = .bool (BS s i t)∧Ext w w'):=by
 have hs:=St.start w;refine abk _ _ _ _ _ ?_;unfold S232;refine ⟨λ jv w'=>jv = .bool (BS s i t)∧w=w',?_,?_⟩
 ·refine gb gN (aO (by omega) (gb gN (j9 (aC (λ kM=>?_) (λ kM=>?_)))))
  ·refine gb gN (aO (by omega) (KM gN (by omega) (by omega) (by omega) (uf ?_)));exact ⟨vb (by unfold BS; grind),rfl⟩
  ·exact ⟨vb (by unfold BS; grind),rfl⟩
 ·rintro _ w1 ⟨rfl,hw⟩ fz;subst hw;exact ⟨rfl,hs.aE⟩
theorem C209 (s:ByteArray) (i N r:Nat) (w:World) (hz:s.size≤4000) (h0:i≤s.size) (hr:kP s N i=some r):CR 209 [.string s,.int .i64 (i:Int)] w (λ v w'=>v = .int .i64 (r:Int)∧Ext w w'):=by
 have hz0:=hz;replace hz:s.size≤1000000:=by omega
 have hs:=St.start w;refine aaZ _ _ _ _ ?_;unfold S209;refine ⟨λ mm x w1=>∃ a:Nat,x = .int .i64 (a:Int)∧a≤s.size∧kP s mm a=some r∧St w bD [] w1,⟨N,i,rfl,h0,hr,hs⟩,?_⟩;rintro mm _ w1 ⟨a,rfl,ha,hp,hs⟩ fz;obtain ⟨k,rfl⟩:=OL hp;refine gb gN (aR (aC (λ gw=>?_) (λ gw=>?_)))
 ·obtain ⟨asb,Fo⟩:∃ xx,(lr (s))[((a:Int)).toNat]? = some xx:=⟨_,List.getElem?_eq_getElem (by rw [dZ]; omega)⟩;refine lM gN (by omega) Fo ?_;refine ⟨λ jv w'=>jv = .bool (tH asb)∧w1=w',?_,?_⟩
  ·refine om (aC (λ gI=>?_) (λ gI=>?_))
   ·exact ⟨vb (by unfold tH; first | exact (decide_eq_true (by omega)).symm | exact decide_eq_decide.2 (by omega)),rfl⟩
   ·refine om (aC (λ mc=>?_) (λ mc=>?_))
    ·exact ⟨vb (by unfold tH; first | exact (decide_eq_true (by omega)).symm | exact decide_eq_decide.2 (by omega)),rfl⟩
    ·refine om (aC (λ gv=>?_) (λ gv=>?_))
     ·exact ⟨vb (by unfold tH; first | exact (decide_eq_true (by omega)).symm | exact decide_eq_decide.2 (by omega)),rfl⟩
     ·refine om ?_;exact ⟨vb (by unfold tH; first | exact (decide_eq_true (by omega)).symm | exact decide_eq_decide.2 (by omega)),rfl⟩
  ·rintro _ w2 ⟨rfl,hw⟩ jB;subst hw;refine aY (λ qC=>?_) (λ qC=>?_)
   ·refine aO (by omega) ?_;have hal:=qo Fo;exact ⟨k,by omega,a+1,rfl,by omega,Cm hp Fo qC,hs⟩
   ·refine aZ afB hs (C232 s (ByteArray.mk #[47,47]) (a:Int) _ hz (by decide) (by omega)) (λ w3 he hs=>aY (λ lQ=>?_) (λ lQ=>?_))
    ·refine ⟨λ mm x w1=>∃ j:Nat,x = .int .i64 (j:Int)∧mm=s.size - j∧a≤j∧j≤s.size∧vU yD s a=vU yD s j∧St w bD [] w1,⟨_,a,rfl,rfl,Nat.le_refl _,ha,rfl,hs⟩,?_⟩;rintro mm _ w4 ⟨j,rfl,rfl,haj,hj,gn,hs⟩ oN;refine ⟨λ jv w'=>jv = .bool ((match (lr s)[j]? with | some c=>yD c | none=>false))∧w4=w',?_,?_⟩
     ·refine gb gN (aR (aC (λ jC=>?_) (λ jC=>?_)))
      ·obtain ⟨qF,ql⟩:∃ xx,(lr (s))[((j:Int)).toNat]? = some xx:=⟨_,List.getElem?_eq_getElem (by rw [dZ]; omega)⟩;refine lM gN (by omega) ql (Vb ?_);exact ⟨vb (by first | (rw [show (lr s)[j]? = some qF from ql]; unfold yD; exact decide_eq_decide.2 (by omega)) | (rw [List.getElem?_eq_none (by rw [dZ]; omega)])),rfl⟩
      ·exact ⟨vb (by first | (rw [show (lr s)[j]? = some qF from ql]; unfold yD; exact decide_eq_decide.2 (by omega)) | (rw [List.getElem?_eq_none (by rw [dZ]; omega)])),rfl⟩
     ·rintro _ w5 ⟨rfl,hw⟩ F6;subst hw;refine aY (λ j3=>?_) (λ j3=>?_)
      ·refine aO (by omega) ?_
       have Rb:∃ c,(lr s)[j]? = some c∧yD c=true:=by
        cases hc:(lr s)[j]? with
        | none=>rw [hc] at j3; cases j3
        | some c=>rw [hc] at j3; exact ⟨c,rfl,j3⟩
       obtain ⟨cj,CH,S0⟩:=Rb;have hjl:=qo CH;exact ⟨_,by omega,j+1,rfl,rfl,by omega,by omega,gn.trans (Fl CH S0),hs⟩
      ·have ay9:vU yD s j=j:=by
        by_cases hjs:j<s.size
        ·obtain ⟨cj,Rb⟩:∃ c,(lr s)[j]? = some c:=⟨_,List.getElem?_eq_getElem (by rw [dZ]; exact hjs)⟩;rw [Rb] at j3; exact Fm Rb j3
        ·exact Jj (by omega)
       have Zk:=Hv hp Fo qC lQ;rw [gn,ay9] at Zk;exact ⟨k,by omega,j,rfl,hj,Zk,hs⟩
    ·have hx:=Mb hp Fo qC (by exact_mod_cast lQ);subst hx;exact ⟨rfl,hs.aE⟩
 ·have hx:=SZ hp (by omega);subst hx;exact ⟨rfl,hs.aE⟩
theorem C210 (s:ByteArray) (i:Nat) (c:UInt8) (w:World) (hz:s.size≤1000000) (hc:(lr s)[i]? = some c):CR 210 [.string s,.int .i64 (i:Int)] w (λ v w'=>v = .int .i64 (qc s i c)∧Ext w w'):=by
 have hi:=qo hc;have hs:=St.start w;refine aa0 _ _ _ _ ?_;unfold S210;refine bX (CG) hs mX rfl rfl (eL rfl) (λ apq w1 hs=>?_);refine ⟨λ mm x w1=>∃ k:Nat,x = .int .i64 (k:Int)∧mm=CG.length - k∧k≤CG.length∧(∀ y∈CG.take k,BS s i y=false)∧St w bD [bK apq CG] w1,⟨_,0,rfl,rfl,Nat.zero_le _,by simp,hs⟩,?_⟩;rintro mm _ w2 ⟨k,rfl,rfl,hk,fS,hs⟩ fz;refine aK mX (hs).fB ?_;have Nk:CG.length=5:=rfl;refine aR (aC (λ kM=>?_) (λ kM=>?_))
 ·obtain ⟨agk,pd⟩:=gx (CG) (i:=((k:Int)).toNat) (by omega);refine dU hs mX (by omega) (by omega) (λ _ LB=>gk hs ke LB pd (aZ afB hs (C232 s agk (i:Int) _ hz (aed _ (List.mem_of_getElem? pd)) (by omega)) (λ w3 he hs=>aY (λ iu=>?_) (λ iu=>?_))))
  ·exact ⟨congrArg (Value.int .i64) (by unfold qc; rw [if_pos (jH pd iu)]),hs.drop.aE⟩
  ·refine aO (by omega) ?_;exact ⟨_,by omega,k+1,rfl,rfl,by omega,eH fS pd iu,hs⟩
 ·have hs:=(hs).drop;refine ⟨λ mm x w1=>∃ j:Nat,x = .int .i64 (j:Int)∧mm=(ByteArray.mk #[40,41,123,125,59,44,61,60,33,43,45,42,47,37]).size - j∧j≤(ByteArray.mk #[40,41,123,125,59,44,61,60,33,43,45,42,47,37]).size∧(∀ y∈(lr (ByteArray.mk #[40,41,123,125,59,44,61,60,33,43,45,42,47,37])).take j,decide ((y.toNat:Int)=c.toNat)=false)∧St w bD [] w1,⟨_,0,rfl,rfl,Nat.zero_le _,by simp,hs⟩,?_⟩;rintro mm _ w4 ⟨j,rfl,rfl,hj,Eu,hs⟩ jB;refine gb gN ?_;have Y8:(ByteArray.mk #[40,41,123,125,59,44,61,60,33,43,45,42,47,37]).size=14:=rfl;refine aR (aC (λ qC=>?_) (λ qC=>?_))
  ·obtain ⟨aqZ,BH⟩:∃ xx,(lr ((ByteArray.mk #[40,41,123,125,59,44,61,60,33,43,45,42,47,37])))[((j:Int)).toNat]? = some xx:=⟨_,List.getElem?_eq_getElem (by rw [dZ]; omega)⟩;refine lM gN (by omega) BH ?_;obtain ⟨vG,tA⟩:∃ xx,(lr (s))[((i:Int)).toNat]? = some xx:=⟨_,List.getElem?_eq_getElem (by rw [dZ]; omega)⟩;refine lM gN (by omega) tA ?_;obtain rfl:=Option.some.inj (tA.symm.trans hc);refine om (aC (λ jC=>?_) (λ jC=>?_))
   ·have hs:=hs.drew;have hn2:CG.any (BS s i)=false:=iM (by rw [List.take_of_length_le (by omega)] at fS; exact fS);exact ⟨congrArg (Value.int .i64) (by unfold qc; rw [if_neg (by rw [hn2]; simp),if_pos (jH BH (decide_eq_true jC))]),hs.aE⟩
   ·refine aO (by omega) ?_;have hs:=hs.drew;exact ⟨_,by omega,j+1,rfl,rfl,by omega,eH Eu BH (decide_eq_false jC),hs⟩
  ·have hn2:CG.any (BS s i)=false:=iM (by rw [List.take_of_length_le (by omega)] at fS; exact fS);have hn3:=iM (g:=λ x:UInt8=>decide ((x.toNat:Int)=c.toNat)) (by rw [List.take_of_length_le (by rw [dZ]; omega)] at Eu; exact Eu);exact ⟨congrArg (Value.int .i64) (by unfold qc; rw [if_neg (by rw [hn2]; simp),if_neg (by rw [hn3]; simp)]),hs.aE⟩
theorem C211 (lv:Value) (l:List bI) (i:Int) (t:ByteArray) (w:World) (hL:eE (λ _=>True) w lv l) (hn:l.length≤1000000):CR 211 [lv,.int .i64 i,.string t] w (λ v w'=>v = .bool (sR l i t)∧Ext w w'):=by
 have hs:=St.start w;refine aa1 _ _ _ _ _ ?_;unfold S211;refine ⟨λ jv w'=>jv = .bool (sR l i t)∧w=w',?_,?_⟩
 ·refine dH (aC (λ gp=>?_) (λ gp=>?_))
  ·refine aK fG (hL.ext hs.aE) (aR (aC (λ kM=>?_) (λ kM=>?_)))
   ·obtain ⟨rA,jt⟩:=gx (l) (i:=(i).toNat) (by omega);refine aQ fG hL (by omega) jt (λ _ wx=>bT (rA).text m8 wx rfl rfl (λ _ ju=>aD ke (ju.ext hs.aE) (uf (aC (λ iu=>?_) (λ iu=>?_)))))
    ·refine aQ fG hL (by omega) jt (λ _ wy=>bT (rA).kind lj wy rfl rfl (λ _ wC=>aD bN (wC.ext hs.aE) (cO (aC (λ nI=>?_) (λ nI=>?_)))))
     ·refine aQ fG hL (by omega) jt (λ _ z9=>bT (rA).kind lj z9 rfl rfl (λ _ ui=>aD bN (ui.ext hs.aE) (dH (aC (λ mi=>?_) (λ mi=>?_)))))
      ·refine aQ fG hL (by omega) jt (λ _ yA=>bT (rA).kind lj yA rfl rfl (λ _ AR=>aD bN (AR.ext hs.aE) (j9 ?_)));exact ⟨vb (by unfold sR; first | (rw [jt]; grind) | (rw [decide_eq_false (by omega)]; rfl) | (rw [List.getElem?_eq_none (by omega)]; simp)),rfl⟩
      ·exact ⟨vb (by unfold sR; first | (rw [jt]; grind) | (rw [decide_eq_false (by omega)]; rfl) | (rw [List.getElem?_eq_none (by omega)]; simp)),rfl⟩
     ·exact ⟨vb (by unfold sR; first | (rw [jt]; grind) | (rw [decide_eq_false (by omega)]; rfl) | (rw [List.getElem?_eq_none (by omega)]; simp)),rfl⟩
    ·exact ⟨vb (by unfold sR; first | (rw [jt]; grind) | (rw [decide_eq_false (by omega)]; rfl) | (rw [List.getElem?_eq_none (by omega)]; simp)),rfl⟩
   ·exact ⟨vb (by unfold sR; first | (rw [jt]; grind) | (rw [decide_eq_false (by omega)]; rfl) | (rw [List.getElem?_eq_none (by omega)]; simp)),rfl⟩
  ·exact ⟨vb (by unfold sR; first | (rw [jt]; grind) | (rw [decide_eq_false (by omega)]; rfl) | (rw [List.getElem?_eq_none (by omega)]; simp)),rfl⟩
 ·rintro _ w1 ⟨rfl,hw⟩ fz;subst hw;exact ⟨rfl,hs.aE⟩
theorem C215 (lv:Value) (l:List bI) (i:Int) (w:World) (hL:eE (λ _=>True) w lv l) (hn:l.length≤1000000) (ti:∀ x∈l,0≤x.at_∧x.at_≤1000000∧x.text.size≤1000000):CR 215 [lv,.int .i64 i] w (λ v w'=>v = .int .i64 (mQ l i)∧Ext w w'):=by
 have hs:=St.start w;refine aa5 _ _ _ _ ?_;unfold S215;refine ⟨λ jv w'=>jv = .bool (decide (0≤i∧i<l.length))∧w=w',?_,?_⟩
 ·refine dH (aC (λ oJ=>?_) (λ oJ=>?_))
  ·refine aK fG (hL.ext hs.aE) (aR ?_);exact ⟨vX (by omega),rfl⟩
  ·exact ⟨Zq (by omega),rfl⟩
 ·rintro _ w1 ⟨rfl,hw⟩ fz;subst hw;refine aC (λ j1=>?_) (λ j1=>?_)
  ·obtain ⟨pS,jW⟩:=gx (l) (i:=(i).toNat) (by omega);refine aQ fG hL (by omega) jW (λ _ rz=>bT (pS).at_ lq rz rfl rfl (λ _ ug=>aD bN (ug.ext hs.aE) ?_));exact ⟨congrArg (Value.int .i64) (by unfold mQ; rw [if_pos (by omega),jW]),hs.aE⟩
  ·refine aK fG (hL.ext hs.aE) (aH (aC (λ jD=>?_) (λ jD=>?_)))
   ·have hl0:l=[]:=List.length_eq_zero_iff.1 (by omega);subst hl0;exact ⟨congrArg (Value.int .i64) (by unfold mQ; split <;> simp_all),hs.aE⟩
   ·refine aK fG (hL.ext hs.aE) (gA (by omega) ?_);obtain ⟨G8,qj⟩:=gx (l) (i:=((((l).length:Int) - 1)).toNat) (by omega);refine aQ fG hL (by omega) qj (λ _ uw=>bT (G8).at_ lq uw rfl rfl (λ _ rB=>have hs:=hs.drew;aD bN (rB.ext hs.aE) (aK fG (hL.ext hs.aE) (gA (by omega) (aQ fG hL (by omega) qj (λ _ Am=>bT (G8).text m8 Am rfl rfl (λ _ An=>aD ke (An.ext hs.aE) (gb gN ?_))))))));have hax:=ti _ (List.mem_of_getElem? qj);refine aO (by omega) ?_;have hgl:l.getLast? = some G8:=by rw [List.getLast?_eq_getElem?,← qj]; congr 1; omega
    have fS:(if 0≤i then l[i.toNat]? else none)=none:=by split; exact List.getElem?_eq_none (by omega); rfl
    exact ⟨congrArg (Value.int .i64) (by unfold mQ; rw [fS,hgl]),hs.aE⟩
def numOf (s:ByteArray) (a k:Nat):Int:=(((lr s).drop a).take (k - a)).foldl (λ n c=>if n≤4294967296 then 10 * n+((c.toNat:Int) - 48) else n) 0
theorem Jk (s:ByteArray) (a:Nat):numOf s a a=0:=by unfold numOf; rw [Nat.sub_self]; rfl
theorem zo {s:ByteArray} {a k:Nat} {c:UInt8} (ha:a≤k) (h:(lr s)[k]? = some c):numOf s a (k+1)=if numOf s a k≤4294967296 then 10 * numOf s a k+((c.toNat:Int) - 48) else numOf s a k:=by
 unfold numOf
 rw [show k+1 - a=(k - a)+1 from by omega,List.take_add_one,List.getElem?_drop,show a+(k - a)=k from by omega,h,Option.toList_some,List.foldl_append]
 rfl
theorem aee {s:ByteArray} {a:Nat}:∀ {k:Nat},a≤k→k≤s.size→(∀ j c,a≤j→j<k→(lr s)[j]? = some c→48≤(c.toNat:Int)∧(c.toNat:Int)≤57)→0≤numOf s a k∧numOf s a k≤42949672969:=by
 intro k
 induction k with
 | zero=>
  intro h _ _
  have e:a=0:=by omega
  rw [e,Jk]; omega
 | succ k ih=>
  intro ha hk hd
  by_cases e:a=k+1
  ·subst e; rw [Jk]; omega
  ·have:=ih (by omega) (by omega) λ j c h1 h2=>hd j c h1 (by omega)
   obtain ⟨c,hc⟩:∃ c,(lr s)[k]? = some c:=⟨_,List.getElem?_eq_getElem (by rw [dZ]; omega)⟩
   have h2:=hd k c (by omega) (by omega) hc
   rw [zo (by omega) hc]
   split <;> omega
def my (s:ByteArray):Nat→Nat→List bI→Option (List bI × Int × Int)
 | 0,_,_=>none
 | n+1,a,out=>match (lr s)[a]? with
  | none=>some (out,0,0)
  | some c=>
   if jA c.toNat=true then (if 16<vU rS s a - a then some ([],2,(a:Int)) else (kP s (s.size+1) (vU rS s a)).bind λ a'=>my s n a' (out++[⟨1,s.extract a (vU rS s a),0,a⟩]))
   else if ny c.toNat=true then (if 4294967296<numOf s a (vU vR s a) then some ([],4,(a:Int)) else (kP s (s.size+1) (vU vR s a)).bind λ a'=>my s n a' (out++[⟨2,s.extract a (vU vR s a),numOf s a (vU vR s a),a⟩]))
   else if qc s a c=0 then some ([],3,(a:Int)) else (kP s (s.size+1) (a+(qc s a c).toNat)).bind λ a'=>my s n a' (out++[⟨3,s.extract a (a+(qc s a c).toNat),0,a⟩])
def uI (s:ByteArray):Option (List bI × Int × Int):=if 4000<s.size then some ([],2,4000) else (kP s (s.size+1) 0).bind λ a=>my s (s.size+2) a []
theorem ON {s:ByteArray} {n a:Nat} {out:List bI} {r:List bI × Int × Int} (h:my s n a out=some r):∃ k,n=k+1:=by
 cases n with
 | zero=>cases h
 | succ k=>exact ⟨k,rfl⟩
def AS (s:ByteArray) (k a:Nat) (out:List bI) (R:List bI × Int × Int) (kd:Int) (e:Nat) (n:Int):Prop:=a<e∧e≤s.size∧∃ a',kP s (s.size+1) e=some a'∧my s k a' (out++[⟨kd,s.extract a e,n,a⟩])=some R
section
variable {s:ByteArray} {k a:Nat} {c:UInt8} {out:List bI} {R:List bI × Int × Int}
theorem S1 (h:my s (k+1) a out=some R) (ha:s.size≤a):R=(out,0,0):=by
 unfold my at h; rw [List.getElem?_eq_none (by rw [dZ]; exact ha)] at h; exact (Option.some.inj h).symm
theorem Gg (h:my s (k+1) a out=some R) (hc:(lr s)[a]? = some c) (hl:jA c.toNat=true) (hb:16<vU rS s a - a):R=([],2,(a:Int)):=by
 unfold my at h; rw [hc] at h; dsimp only at h; rw [if_pos hl,if_pos hb] at h; exact (Option.some.inj h).symm
theorem BT {e:Nat} {kd n:Int} (h:((kP s (s.size+1) e).bind λ a'=>my s k a' (out++[⟨kd,s.extract a e,n,a⟩]))=some R) (h1:a<e) (h2:e≤s.size):AS s k a out R kd e n:=by
 cases hp:kP s (s.size+1) e with
 | none=>rw [hp] at h; cases h
 | some a'=>rw [hp] at h; exact ⟨h1,h2,a',hp,h⟩
theorem S2 (h:my s (k+1) a out=some R) (hc:(lr s)[a]? = some c) (hl:jA c.toNat=true) (hb:¬ 16<vU rS s a - a) (hgt:a<vU rS s a):AS s k a out R 1 (vU rS s a) 0:=by
 unfold my at h; rw [hc] at h; dsimp only at h; rw [if_pos hl,if_neg hb] at h
 have:=qo hc; have h2:=OM (s:=s) (a:=a) rS
 exact BT h hgt (by omega)
theorem Jl (h:my s (k+1) a out=some R) (hc:(lr s)[a]? = some c) (hl:jA c.toNat=false) (hd:ny c.toNat=true) (hb:4294967296<numOf s a (vU vR s a)):R=([],4,(a:Int)):=by
 unfold my at h; rw [hc] at h; dsimp only at h; rw [if_neg (by rw [hl]; simp),if_pos hd,if_pos hb] at h; exact (Option.some.inj h).symm
theorem XO (h:my s (k+1) a out=some R) (hc:(lr s)[a]? = some c) (hl:jA c.toNat=false) (hd:ny c.toNat=true) (hb:¬ 4294967296<numOf s a (vU vR s a)) (hgt:a<vU vR s a):AS s k a out R 2 (vU vR s a) (numOf s a (vU vR s a)):=by
 unfold my at h; rw [hc] at h; dsimp only at h; rw [if_neg (by rw [hl]; simp),if_pos hd,if_neg hb] at h
 have:=qo hc; have h2:=OM (s:=s) (a:=a) vR
 exact BT h hgt (by omega)
theorem S3 (h:my s (k+1) a out=some R) (hc:(lr s)[a]? = some c) (hl:jA c.toNat=false) (hd:ny c.toNat=false) (hb:qc s a c=0):R=([],3,(a:Int)):=by
 unfold my at h; rw [hc] at h; dsimp only at h; rw [if_neg (by rw [hl]; simp),if_neg (by rw [hd]; simp),if_pos hb] at h; exact (Option.some.inj h).symm
theorem XP (s:ByteArray) (a:Nat) (c:UInt8):qc s a c=0∨qc s a c=1∨qc s a c=2:=by
 unfold qc
 repeat' split
 all_goals simp
theorem Rc {s:ByteArray} {a:Nat} {c:UInt8} (h:(lr s)[a]? = some c):(a:Int)+qc s a c≤s.size:=by
 have hk:=qo h
 unfold qc
 split
 ·rename_i h2
  rw [List.any_eq_true] at h2
  obtain ⟨t,ht,hb⟩:=h2
  have:t.size=2:=by
   have mA:∀ t∈CG,t.size=2:=by decide
   exact mA t ht
  unfold BS at hb
  rw [Bool.and_eq_true,decide_eq_true_eq] at hb
  omega
 ·split <;> omega
theorem S4 (h:my s (k+1) a out=some R) (hc:(lr s)[a]? = some c) (hl:jA c.toNat=false) (hd:ny c.toNat=false) (hb:¬ qc s a c=0):AS s k a out R 3 (a+(qc s a c).toNat) 0:=by
 unfold my at h; rw [hc] at h; dsimp only at h; rw [if_neg (by rw [hl]; simp),if_neg (by rw [hd]; simp),if_neg hb] at h
 have h1:=XP s a c; have h2:=Rc hc
 exact BT h (by omega) (by omega)
end
set_option maxHeartbeats 1000000 in
theorem C164 (s:ByteArray) (R:List bI × Int × Int) (w:World) (YY:s.size≤1000000) (hr:uI s=some R):CR 164 [.string s] w (λ v w'=>∃ o,v = .tuple #[o,.int .i64 R.2.1,.int .i64 R.2.2]∧lW (bK o R.1) w w'):=by
 have hs:=St.start w;refine aan _ _ _ ?_;unfold S164;refine gb gN (dD (aC (λ gT=>?_) (λ gT=>?_)))
 ·have hR:([],2,4000)=R:=by unfold uI at hr; rw [if_pos (by omega)] at hr; exact Option.some.inj hr
  subst hR;exact ⟨_,rfl,hs.fU.fresh⟩
 ·have h4:s.size≤4000:=by omega
  obtain ⟨a0,ha0,hp0⟩:∃ a0,kP s (s.size+1) 0=some a0∧my s (s.size+2) a0 []=some R:=by
   unfold uI at hr;rw [if_neg (by omega)] at hr;cases hq:kP s (s.size+1) 0 with
   | none=>rw [hq] at hr; cases hr
   | some a0=>rw [hq] at hr; exact ⟨a0,rfl,hr⟩
  have azb:=AQ ha0 (by omega);refine bX (([]:List bI)) hs fG rfl rfl (eL rfl) (λ s_x12 w1 hs=>aZ afy hs (C209 s 0 (s.size+1) a0 _ (by omega) (by omega) ha0) (λ w2 he hs=>?_));refine ⟨λ mm o x w'=>∃ (a:Nat) (out:List bI),x = .int .i64 (a:Int)∧a≤s.size∧out.length≤a∧my s mm a out=some R∧St w bD [bK o out] w',⟨_,a0,[],rfl,azb.2,Nat.zero_le _,hp0,hs⟩,?_⟩;rintro mm yI _ w3 ⟨a,out,rfl,ha,Y8,hp,hs⟩ fz;obtain ⟨k,rfl⟩:=ON hp;refine gb gN (aR (aC (λ gd=>?_) (λ gd=>?_)))
  ·refine pop (U1 _) (aJ hs ab6 (λ S6 w4 hs=>aI (x:=(⟨0,(ByteArray.mk #[]),0,(a:Int)⟩:bI)) hs afN rfl rfl (λ w5 hs=>?_)));refine ⟨λ to w'=>∃ (kd:Int) (e:Nat) (n:Int),to = .int .i64 (e:Int)∧AS s k a out R kd e n∧St w bD [cE S6 (Flat.enc (⟨kd,ByteArray.mk #[],n,(a:Int)⟩:bI)),bK yI out] w',?_,?_⟩
   ·obtain ⟨gU,iw⟩:∃ xx,(lr (s))[((a:Int)).toNat]? = some xx:=⟨_,List.getElem?_eq_getElem (by rw [dZ]; omega)⟩;refine lM gN (by omega) iw ?_;have Zc:(lr s)[a]? = some gU:=iw;refine aZ Qb hs (C206 _ _) (λ w6 he hs=>aY (λ fD=>?_) (λ fD=>?_))
    ·have MP:=fD;refine aA lj (aV hs bN (eL rfl) (rfl) (λ w7 hs=>?_));have hs:=hs.enc (cs':=Flat.enc ({ (⟨0,(ByteArray.mk #[]),0,(a:Int)⟩:bI) with kind:=1}:bI)) rfl;have hs:=hs.p1.p1;refine ⟨λ mm x w'=>∃ j:Nat,x = .int .i64 (j:Int)∧mm=s.size - j∧a≤j∧j≤s.size∧vU rS s a=vU rS s j∧St w bD [cE S6 (Flat.enc (⟨1,ByteArray.mk #[],0,(a:Int)⟩:bI)),bK yI out] w',⟨_,a,rfl,rfl,Nat.le_refl _,ha,rfl,hs⟩,?_⟩;rintro mm _ w8 ⟨j,rfl,rfl,haj,hj,gn,hs⟩ jB;refine ⟨λ jv w'=>jv = .bool (match (lr s)[j]? with | some c=>rS c | none=>false)∧St w bD [cE S6 (Flat.enc (⟨1,ByteArray.mk #[],0,(a:Int)⟩:bI)),bK yI out] w',?_,?_⟩
     ·refine gb gN (aR (aC (λ nI=>?_) (λ nI=>?_)))
      ·obtain ⟨vG,tA⟩:∃ xx,(lr (s))[((j:Int)).toNat]? = some xx:=⟨_,List.getElem?_eq_getElem (by rw [dZ]; omega)⟩;refine lM gN (by omega) tA ?_;have hcj0:(lr s)[j]? = some vG:=tA;refine aZ Qb hs (C206 _ _) (λ w9 he hs=>aY (λ jC=>?_) (λ jC=>?_))
       ·exact ⟨vb (by first | (rw [show (lr s)[j]? = some vG from tA]; show _=(jA vG.toNat || ny vG.toNat); rw [jC]; rfl) | (rw [List.getElem?_eq_none (by rw [dZ]; omega)])),hs⟩
       ·refine lM gN (by omega) tA (aZ Qc hs (C208 _ _) (λ pP he hs=>?_));exact ⟨vb (by first | (rw [show (lr s)[j]? = some vG from tA]; show _=(jA vG.toNat || ny vG.toNat); rw [jC]; rfl) | (rw [List.getElem?_eq_none (by rw [dZ]; omega)])),hs⟩
      ·exact ⟨vb (by first | (rw [show (lr s)[j]? = some vG from tA]; show _=(jA vG.toNat || ny vG.toNat); rw [jC]; rfl) | (rw [List.getElem?_eq_none (by rw [dZ]; omega)])),hs⟩
     ·rintro _ sB ⟨rfl,hs⟩ oN;refine aY (λ kB=>?_) (λ kB=>?_)
      ·refine aO (by omega) ?_
       have Rb:∃ c,(lr s)[j]? = some c∧rS c=true:=by
        cases hc:(lr s)[j]? with
        | none=>rw [hc] at kB; cases kB
        | some c=>rw [hc] at kB; exact ⟨c,rfl,kB⟩
       obtain ⟨cj,CH,S0⟩:=Rb;have hjl:=qo CH;exact ⟨_,by omega,j+1,rfl,rfl,by omega,by omega,gn.trans (Fl CH S0),hs⟩
      ·have Jm:vU rS s j=j:=by
        by_cases hjs:j<s.size
        ·obtain ⟨cj,Rb⟩:∃ c,(lr s)[j]? = some c:=⟨_,List.getElem?_eq_getElem (by rw [dZ]; exact hjs)⟩;rw [Rb] at kB; exact Fm Rb kB
        ·exact Jj (by omega)
       refine gA (by omega) (dD (aC (λ Ad=>?_) (λ Ad=>?_)))
       ·have hs:=((hs.drop)).drop;have hR:=Gg hp Zc MP (by rw [gn,Jm]; omega);subst hR;exact ⟨_,rfl,hs.fU.fresh⟩
       ·have hs:=hs.p1.p1
        have hgt:a<j:=by
         rcases Nat.lt_or_ge a j with h | h
         ·exact h
         ·obtain rfl:j=a:=by omega
          rw [Zc] at kB; have h9:rS gU=false:=kB; unfold rS at h9; rw [MP] at h9; cases h9
        have XQ:=S2 hp Zc MP (by rw [gn,Jm]; omega) (by rw [gn,Jm]; exact hgt);rw [gn,Jm] at XQ;exact ⟨1,j,0,rfl,XQ,hs⟩
    ·have MP:=fD;refine lM gN (by omega) iw (aZ Qc hs (C208 _ _) (λ u7 he hs=>aY (λ B9=>?_) (λ B9=>?_)))
     ·have hda:=B9;refine aA lj (aV hs bN (eL rfl) (rfl) (λ u9 hs=>?_));have hs:=hs.enc (cs':=Flat.enc ({ (⟨0,(ByteArray.mk #[]),0,(a:Int)⟩:bI) with kind:=2}:bI)) rfl;have hs:=hs.p1.p1;refine ⟨λ mm x w'=>∃ j:Nat,x = .int .i64 (j:Int)∧mm=s.size - j∧a≤j∧j≤s.size∧vU vR s a=vU vR s j∧(∀ (i:Nat) (c:UInt8),a≤i→i<j→(lr s)[i]? = some c→48≤(c.toNat:Int)∧(c.toNat:Int)≤57)∧St w bD [cE S6 (Flat.enc (⟨2,ByteArray.mk #[],(numOf s a j),(a:Int)⟩:bI)),bK yI out] w',⟨_,a,rfl,rfl,Nat.le_refl _,ha,rfl,λ i c h1 h2=>absurd h1 (by omega),by rw [Jk]; exact hs⟩,?_⟩
      rintro mm _ r9 ⟨j,rfl,rfl,haj,hj,gn,hdg,hs⟩ F6;refine ⟨λ jv w'=>jv = .bool (match (lr s)[j]? with | some c=>vR c | none=>false)∧St w bD [cE S6 (Flat.enc (⟨2,ByteArray.mk #[],(numOf s a j),(a:Int)⟩:bI)),bK yI out] w',?_,?_⟩
      ·refine gb gN (aR (aC (λ uq=>?_) (λ uq=>?_)))
       ·obtain ⟨ag3,OO⟩:∃ xx,(lr (s))[((j:Int)).toNat]? = some xx:=⟨_,List.getElem?_eq_getElem (by rw [dZ]; omega)⟩;refine lM gN (by omega) OO (aZ Qc hs (C208 _ _) (λ vT he hs=>?_));exact ⟨vb (by first | (rw [show (lr s)[j]? = some ag3 from OO]; rfl) | (rw [List.getElem?_eq_none (by rw [dZ]; omega)])),hs⟩
       ·exact ⟨vb (by first | (rw [show (lr s)[j]? = some ag3 from OO]; rfl) | (rw [List.getElem?_eq_none (by rw [dZ]; omega)])),hs⟩
      ·rintro _ yO ⟨rfl,hs⟩ QC;refine aY (λ qD=>?_) (λ qD=>?_)
       ·have Rb:∃ c,(lr s)[j]? = some c∧vR c=true:=by
         cases hc:(lr s)[j]? with
         | none=>rw [hc] at qD; cases qD
         | some c=>rw [hc] at qD; exact ⟨c,rfl,qD⟩
        obtain ⟨cj,CH,S0⟩:=Rb;have hjl:=qo CH;have hcd:=S0;unfold vR ny at hcd;rw [decide_eq_true_eq] at hcd;have hnb:=aee haj (by omega) hdg;refine ⟨λ w'=>St w bD [cE S6 (Flat.enc (⟨2,ByteArray.mk #[],(numOf s a (j+1)),(a:Int)⟩:bI)),bK yI out] w',?_,?_⟩
        ·refine aA rn (aB (v:=.int .i64 (numOf s a j)) bN hs.hb rfl (j9 (aC (λ oz=>?_) (λ oz=>?_))))
         ·refine aA rn (have hs:=hs.drew;aB (v:=.int .i64 (numOf s a j)) bN hs.hb rfl (Qf (by omega) ?_));obtain ⟨ase,XR⟩:∃ xx,(lr (s))[((j:Int)).toNat]? = some xx:=⟨_,List.getElem?_eq_getElem (by rw [dZ]; omega)⟩;refine lM gN (by omega) XR ?_;obtain rfl:=Option.some.inj (XR.symm.trans (show (lr s)[((j:Int)).toNat]? = some cj from CH));refine XH (by omega) (SX xS oU (by omega) (aO (by omega) (aA rn (aV hs bN (eL rfl) (rfl) (λ B6 hs=>?_)))));have hs:=hs.enc (cs':=Flat.enc ({ (⟨2,ByteArray.mk #[],(numOf s a j),(a:Int)⟩:bI) with n:=((10 * (numOf s a j))+((ase.toNat:Int) - 48))}:bI)) rfl
          have hs:=hs.p1.p1;rw [zo haj CH,if_pos oz];exact hs
         ·have hs:=hs.p1.p1;rw [zo haj CH,if_neg oz];exact hs
        ·intro GQ hs dd6;refine aO (by omega) ?_
         exact ⟨_,by omega,j+1,rfl,rfl,by omega,by omega,gn.trans (Fl CH S0),λ i c h1 h2 h3=>by
          by_cases e:i=j
          ·subst e; obtain rfl:=Option.some.inj (h3.symm.trans CH); omega
          ·exact hdg i c h1 (by omega) h3,hs⟩
       ·have Jm:vU vR s j=j:=by
         by_cases hjs:j<s.size
         ·obtain ⟨cj,Rb⟩:∃ c,(lr s)[j]? = some c:=⟨_,List.getElem?_eq_getElem (by rw [dZ]; exact hjs)⟩;rw [Rb] at qD; exact Fm Rb qD
         ·exact Jj (by omega)
        refine aA rn (aB (v:=.int .i64 (numOf s a j)) bN hs.hb rfl (dD (aC (λ Af=>?_) (λ Af=>?_))))
        ·have hs:=((hs.drop)).drop;have hR:=Jl hp Zc MP hda (by rw [gn,Jm]; omega);subst hR;exact ⟨_,rfl,hs.fU.fresh⟩
        ·have hs:=hs.p1.p1
         have hgt:a<j:=by
          rcases Nat.lt_or_ge a j with h | h
          ·exact h
          ·obtain rfl:j=a:=by omega
           rw [Zc] at qD; have h9:vR gU=false:=qD; unfold vR at h9; rw [hda] at h9; cases h9
         have XQ:=XO hp Zc MP hda (by rw [gn,Jm]; omega) (by rw [gn,Jm]; exact hgt);rw [gn,Jm] at XQ;exact ⟨2,j,_,rfl,XQ,hs⟩
     ·have hda:=B9;have hsb:=XP s a gU;have hsi:=Rc Zc;refine aA lj (aV hs bN (eL rfl) (rfl) (λ IF hs=>have hs:=hs.enc (cs':=Flat.enc ({ (⟨0,(ByteArray.mk #[]),0,(a:Int)⟩:bI) with kind:=3}:bI)) rfl;aZ aoc hs (C210 s a gU _ YY Zc) (λ JH he hs=>aO (by omega) (aH (aC (λ WT=>?_) (λ WT=>?_))))))
      ·have hs:=((hs.drop)).drop;have hR:=S3 hp Zc MP hda (by omega);subst hR;exact ⟨_,rfl,hs.fU.fresh⟩
      ·have hs:=hs.p1.p1;have XQ:=S4 hp Zc MP hda (by omega);exact ⟨3,a+(qc s a gU).toNat,0,by congr 1; omega,XQ,hs⟩
   ·rintro _ Lr ⟨kd,e,n,rfl,XQ,hs⟩ dd7;have azc:=XQ;obtain ⟨h1e0,h2e0,_⟩:=azc;refine KM gN (by omega) (by omega) (by omega) (aA m8 (aV hs ke (eL rfl) (rfl) (λ NS hs=>have hs:=hs.enc (cs':=Flat.enc ({ (⟨kd,ByteArray.mk #[],n,(a:Int)⟩:bI) with text:=((s).extract ((a:Int)).toNat ((e:Int)).toNat)}:bI)) rfl;aD afN hs.At (bX ([(⟨kd,s.extract (a:Int).toNat (e:Int).toNat,n,(a:Int)⟩:bI)]) hs fG rfl rfl (eL rfl) (λ ak2 Sy hs=>?_)))));have aef:=(hs).fB;refine cP hs.p2 fG aef (by simp; omega) (by decide) (λ ak3 TU hs=>?_);have hs:=hs.p1.drop;obtain ⟨h1e,h2e,a2,YW,Zk⟩:=XQ
    have azd:=AQ YW h2e;refine aZ afy hs (C209 s e (s.size+1) a2 _ (by omega) (by omega) YW) (λ QQ he hs=>?_);have hs:=(hs.p1).drop;exact ⟨k,by omega,a2,_,rfl,azd.2,by simp; omega,Zk,hs⟩
  ·have hR:=S1 hp (by omega);subst hR;exact ⟨_,rfl,hs.fresh⟩
structure fI where
 l:(List dC)
 to:Int
 e:Int
 at_:Int
deriving DecidableEq
structure dR where
 l:SV
 to:Int
 e:Int
 at_:Int
instance:Flat dR where
 agg:=true
 sz:=4
 enc e:=[.slice e.l.a e.l.n e.l.cap,.int .i64 e.to,.int .i64 e.e,.int .i64 e.at_]
 val e:=.agg [.slice e.l.a e.l.n e.l.cap,.int .i64 e.to,.int .i64 e.e,.int .i64 e.at_].toArray
 pos:=by decide
 len _:=rfl
 one a v h:=by simp at h; rcases h with rfl | rfl | rfl | rfl <;> rfl
 nY _ _:=rfl
 oI h:=by cases h
instance:cA fI dR where
 dr w s x:=∃ (l_:SV),s=(⟨l_,x.to,x.e,x.at_⟩:dR)∧DL w (Flat.val l_) x.l
 ext h e:=by
  obtain ⟨g0,rfl,h0⟩:=h
  exact ⟨g0,rfl,h0.ext e⟩
theorem ld {w:World} {sh:dR} {x:fI} (h:cA.dr w sh x):DL w (Flat.val sh.l) x.l:=by obtain ⟨_,rfl,h⟩:=h; exact h
def qp (n:Int):List Int:=if n=0 then [15] else if n=1 then [14] else if n=2 then [10,11,12,13] else if n=3 then [5,6] else [7,8,9]
def Db:List ByteArray:=[⟨#[]⟩,⟨#[]⟩,⟨#[]⟩,⟨#[45]⟩,⟨#[33]⟩,⟨#[43]⟩,⟨#[45]⟩,⟨#[42]⟩,⟨#[47]⟩,⟨#[37]⟩,⟨#[61,61]⟩,⟨#[33,61]⟩,⟨#[60]⟩,⟨#[60,61]⟩,⟨#[38,38]⟩,⟨#[124,124]⟩]
def Mc (k:Int):ByteArray:=(Db[k.toNat]?).getD ⟨#[]⟩
def gi (l:List bI) (i e:Int):fI:=⟨[],0,if (l.length:Int)≤i then 6 else e,mQ l i⟩
abbrev asf (r:fI) (w:World):=qf λ v w'=>∃ sh:dR,v=Flat.val sh∧lW (eB (λ w=>cA.dr w sh r)) w w'
def ak4 (l:List bI) (rec:Int→Int→Int→Option fI):Prop:=∀ (lv:Value) (i d n:Int) (r:fI) (w:World),eE (λ _=>True) w lv l→rec i d n=some r→0≤i∧i≤l.length→0≤d∧d≤12→0≤n∧n≤5→
 Calls PG 235 [lv,.int .i64 i,.int .i64 d,.int .i64 n].toArray w (asf r w)∧(n=5→Calls PG 257 [lv,.int .i64 i,.int .i64 d].toArray w (asf r w))
structure iz (l:List bI):Prop where
 n:l.length≤5000
 at_:∀ x∈l,0≤x.at_∧x.at_≤1000000∧x.text.size≤1000000
def S7 (l:List bI) (i:Int):Bool:=sR l i ⟨#[33]⟩ || sR l i ⟨#[45]⟩
def pk (rec:Int→Int→Int→Option fI) (l:List bI) (i d:Int):Option fI:=
 match (if (l.length:Int)≤i then none else l[i.toNat]?) with
 | none=>some (gi l i 6)
 | some t=>if ((S7 l i || sR l i ⟨#[40]⟩) && decide (d=12))=true then some (gi l i 7)
  else if S7 l i=true then (rec (i+1) (d+1) 5).bind λ x=>if x.l.length≤10000 then some (if x.e≠0 then x else {x with l:=[⟨if t.text=⟨#[45]⟩ then 3 else 4,0,⟨#[]⟩,t.at_⟩]++x.l}) else none
  else if sR l i ⟨#[40]⟩=true then (rec (i+1) (d+1) 0).bind λ x=>some (if x.e≠0 then x else if sR l x.to ⟨#[41]⟩=true then {x with to:=x.to+1} else gi l x.to 5)
  else if t.kind=2 then some ⟨[⟨1,t.n,⟨#[]⟩,t.at_⟩],i+1,0,0⟩
  else if (decide (t.kind=1) && j4 t.text)=true then some ⟨[⟨2,0,t.text,t.at_⟩],i+1,0,0⟩
  else some (gi l i 5)
def Fp (l:List bI) (to n:Int) (k:Nat):Int:=((qp n).take k).foldl (λ op f=>if sR l to (Mc f)=true then f else op) 0
def Jn (l:List bI) (to n:Int):Int:=Fp l to n (qp n).length
theorem Hw {l:List bI} {to n:Int} {k:Nat} {f:Int} (h:(qp n)[k]? = some f):Fp l to n (k+1)=if sR l to (Mc f)=true then f else Fp l to n k:=by
 unfold Fp; rw [List.take_add_one,h,Option.toList_some,List.foldl_append]; rfl
def vJ (rec:Int→Int→Int→Option fI) (l:List bI) (d n:Int):Nat→fI→Option fI
 | 0,_=>none
 | k+1,x=>if x.e≠0 then some x else if Jn l x.to n=0 then some x else match (if 0≤x.to then l[x.to.toNat]? else none) with
  | none=>none
  | some t=>match rec (x.to+1) d (n+1) with
   | none=>none
   | some y=>if y.e≠0 then some y else if x.l.length+y.l.length≤10000 then
     (if n=2 then some ⟨[⟨Jn l x.to n,0,⟨#[]⟩,t.at_⟩]++x.l++y.l,y.to,0,0⟩ else vJ rec l d n k ⟨[⟨Jn l x.to n,0,⟨#[]⟩,t.at_⟩]++x.l++y.l,y.to,0,0⟩) else none
def Hx (l:List bI):Nat→Int→Int→Int→Option fI
 | 0,_,_,_=>none
 | k+1,i,d,n=>if n=5 then pk (Hx l k) l i d else (Hx l k i d (n+1)).bind (vJ (Hx l k) l d n k)
theorem XS {n:Int} {k:Nat} {f:Int} (h:(qp n)[k]? = some f):5≤f∧f≤15:=by
 have hm:=List.mem_of_getElem? h
 unfold qp at hm
 repeat' split at hm
 all_goals (simp at hm; omega)
section
variable {rec:Int→Int→Int→Option fI} {l:List bI} {i d n:Int} {r x y:fI} {t:bI} {k:Nat}
theorem OP (h:pk rec l i d=some r) (hl:(l.length:Int)≤i):r=gi l i 6:=by
 unfold pk at h; rw [if_pos hl] at h; exact (Option.some.inj h).symm
theorem Md (h:pk rec l i d=some r) (hl:¬ (l.length:Int)≤i) (ht:l[i.toNat]? = some t) (hd:((S7 l i || sR l i ⟨#[40]⟩) && decide (d=12))=true):r=gi l i 7:=by
 unfold pk at h; rw [if_neg hl,ht] at h; dsimp only at h; rw [if_pos hd] at h; exact (Option.some.inj h).symm
theorem S8 (h:pk rec l i d=some r) (hl:¬ (l.length:Int)≤i) (ht:l[i.toNat]? = some t) (hd:((S7 l i || sR l i ⟨#[40]⟩) && decide (d=12))=false) (hu:S7 l i=true) :
  ∃ x,rec (i+1) (d+1) 5=some x∧x.l.length≤10000∧r=if x.e≠0 then x else {x with l:=[⟨if t.text=⟨#[45]⟩ then 3 else 4,0,⟨#[]⟩,t.at_⟩]++x.l}:=by
 unfold pk at h; rw [if_neg hl,ht] at h; dsimp only at h; rw [if_neg (by rw [hd]; simp),if_pos hu] at h
 cases hr:rec (i+1) (d+1) 5 with
 | none=>rw [hr] at h; cases h
 | some x=>
  rw [hr] at h
  by_cases hx:x.l.length≤10000
  ·exact ⟨x,rfl,hx,by simpa [hx] using h.symm⟩
  ·simp [hx] at h
theorem Me (h:pk rec l i d=some r) (hl:¬ (l.length:Int)≤i) (ht:l[i.toNat]? = some t) (hd:((S7 l i || sR l i ⟨#[40]⟩) && decide (d=12))=false) (hu:S7 l i=false) (ho:sR l i ⟨#[40]⟩=true) :
  ∃ x,rec (i+1) (d+1) 0=some x∧r=if x.e≠0 then x else if sR l x.to ⟨#[41]⟩=true then {x with to:=x.to+1} else gi l x.to 5:=by
 unfold pk at h; rw [if_neg hl,ht] at h; dsimp only at h; rw [if_neg (by rw [hd]; simp),if_neg (by rw [hu]; simp),if_pos ho] at h
 cases hr:rec (i+1) (d+1) 0 with
 | none=>rw [hr] at h; cases h
 | some x=>rw [hr] at h; exact ⟨x,rfl,(Option.some.inj h).symm⟩
theorem Mf (h:pk rec l i d=some r) (hl:¬ (l.length:Int)≤i) (ht:l[i.toNat]? = some t) (hd:((S7 l i || sR l i ⟨#[40]⟩) && decide (d=12))=false) (hu:S7 l i=false) (ho:sR l i ⟨#[40]⟩=false) :
  r=if t.kind=2 then ⟨[⟨1,t.n,⟨#[]⟩,t.at_⟩],i+1,0,0⟩ else if (decide (t.kind=1) && j4 t.text)=true then ⟨[⟨2,0,t.text,t.at_⟩],i+1,0,0⟩ else gi l i 5:=by
 unfold pk at h; rw [if_neg hl,ht] at h; dsimp only at h; rw [if_neg (by rw [hd]; simp),if_neg (by rw [hu]; simp),if_neg (by rw [ho]; simp)] at h
 split at h
 ·rename_i h1; rw [if_pos h1]; exact (Option.some.inj h).symm
 ·rename_i h1; rw [if_neg h1]
  split at h
  ·rename_i h2; rw [if_pos h2]; exact (Option.some.inj h).symm
  ·rename_i h2; rw [if_neg h2]; exact (Option.some.inj h).symm
theorem OQ (h:vJ rec l d n k x=some r):∃ j,k=j+1:=by
 cases k with
 | zero=>cases h
 | succ j=>exact ⟨j,rfl⟩
theorem aeg (h:vJ rec l d n (k+1) x=some r) (he:x.e≠0):r=x:=by
 unfold vJ at h; rw [if_pos he] at h; exact (Option.some.inj h).symm
theorem XT (h:vJ rec l d n (k+1) x=some r) (he:¬ x.e≠0) (ho:Jn l x.to n=0):r=x:=by
 unfold vJ at h; rw [if_neg he,if_pos ho] at h; exact (Option.some.inj h).symm
theorem XU (h:vJ rec l d n (k+1) x=some r) (he:¬ x.e≠0) (ho:¬ Jn l x.to n=0):∃ t y,0≤x.to∧l[x.to.toNat]? = some t∧rec (x.to+1) d (n+1)=some y∧(y.e≠0→r=y)∧
  (¬ y.e≠0→x.l.length+y.l.length≤10000∧(n=2→r=⟨[⟨Jn l x.to n,0,⟨#[]⟩,t.at_⟩]++x.l++y.l,y.to,0,0⟩)∧(¬ n=2→vJ rec l d n k ⟨[⟨Jn l x.to n,0,⟨#[]⟩,t.at_⟩]++x.l++y.l,y.to,0,0⟩=some r)):=by
 unfold vJ at h; rw [if_neg he,if_neg ho] at h
 by_cases h0:0≤x.to
 ·rw [if_pos h0] at h
  cases ht:l[x.to.toNat]? with
  | none=>rw [ht] at h; cases h
  | some t=>
   rw [ht] at h; dsimp only at h
   cases hr:rec (x.to+1) d (n+1) with
   | none=>rw [hr] at h; cases h
   | some y=>
    rw [hr] at h; dsimp only at h
    refine ⟨t,y,h0,rfl,rfl,λ hy=>?_,λ hy=>?_⟩
    ·rw [if_pos hy] at h; exact (Option.some.inj h).symm
    ·rw [if_neg hy] at h
     by_cases hl:x.l.length+y.l.length≤10000
     ·rw [if_pos hl] at h
      refine ⟨hl,λ h2=>?_,λ h2=>?_⟩
      ·rw [if_pos h2] at h; exact (Option.some.inj h).symm
      ·rw [if_neg h2] at h; exact h
     ·rw [if_neg hl] at h; cases h
 ·rw [if_neg h0] at h; cases h
theorem ag4 (h:Hx l (k+1) i d 5=some r):pk (Hx l k) l i d=some r:=by unfold Hx at h; rw [if_pos rfl] at h; exact h
theorem asg (h:Hx l (k+1) i d n=some r) (hn:¬ n=5):∃ x,Hx l k i d (n+1)=some x∧vJ (Hx l k) l d n k x=some r:=by
 unfold Hx at h; rw [if_neg hn] at h
 cases hx:Hx l k i d (n+1) with
 | none=>rw [hx] at h; cases h
 | some x=>rw [hx] at h; exact ⟨x,rfl,h⟩
end
def vK (l:List bI) (i:Int):Option (List dC × Int × Int × Int):=if i<0 then some ([],0,1,0) else (Hx l 10000 i 0 0).bind λ x=>
 if x.e≠0 then some ([],0,x.e,x.at_) else match yR x.l,l[i.toNat]? with
  | some t,some k=>if x.l.length≤10000 then (if 12<t.depth then some ([],0,7,k.at_) else if 40<x.l.length then some ([],0,2,k.at_) else some (x.l,x.to,0,0)) else none
  | _,_=>none
theorem OR (n:Int):(qp n).length≤4:=by
 unfold qp
 repeat' split
 all_goals simp
theorem C258 (n:Int) (w:World) (hn:0≤n∧n≤4):CR 258 [.int .i64 n] w (λ v w'=>lW (bK v (qp n)) w w'):=by
 have hs:=St.start w;refine abM _ _ _ ?_;unfold S258;refine bX (([15]:List Int)) hs ek rfl rfl (eL rfl) (λ ash w1 hs=>bX (([14]:List Int)) hs ek rfl rfl (eL rfl) (λ aw8 w2 hs=>bX (([10,11,12,13]:List Int)) hs ek rfl rfl (eL rfl) (λ IH w3 hs=>bX (([5,6]:List Int)) hs ek rfl rfl (eL rfl) (λ ac9 w4 hs=>bX (([7,8,9]:List Int)) hs ek rfl rfl (eL rfl) (λ Ln w5 hs=>?_)))));obtain ⟨Rd,rfl⟩:=(hs.p4).fR;obtain ⟨C6,rfl⟩:=(hs.p3).fR;obtain ⟨Re,rfl⟩:=(hs.p2).fR;obtain ⟨Rf,rfl⟩:=(hs.p1).fR;obtain ⟨Rg,rfl⟩:=(hs).fR;refine bX ([Rd,C6,Re,Rf,Rg]) hs yn rfl rfl (eL rfl) (λ yd w6 hs=>?_)
 have hs:=((((((((((((hs.ace (α:=Int))).p6).p1).DZ).p5).p1).DZ).p4).p1).DZ).p3).p1;have hs:=hs.DZ.p2.p1.DZ;obtain rfl | rfl | rfl | rfl | rfl:n=0∨n=1∨n=2∨n=3∨n=4:=by omega
 ·have aeh:=hs.zV;refine dU hs.p1 yn (by decide) (by simp) (λ Rh qE=>gk hs.p1 eA qE (show _=some Rd from rfl) ?_);have hs:=hs.split;exact hs.fresh
 ·have aeh:=hs.zV;refine dU hs.p1 yn (by decide) (by simp) (λ Rh qE=>gk hs.p1 eA qE (show _=some C6 from rfl) ?_);have hs:=hs.split.drop.split;exact hs.fresh
 ·have aeh:=hs.zV;refine dU hs.p1 yn (by decide) (by simp) (λ Rh qE=>gk hs.p1 eA qE (show _=some Re from rfl) ?_);have hs:=hs.split.drop.split.drop.split;exact hs.fresh
 ·have aeh:=hs.zV;refine dU hs.p1 yn (by decide) (by simp) (λ Rh qE=>gk hs.p1 eA qE (show _=some Rf from rfl) ?_);have hs:=hs.split.drop.split.drop.split.drop.split;exact hs.fresh
 ·have aeh:=hs.zV;refine dU hs.p1 yn (by decide) (by simp) (λ Rh qE=>gk hs.p1 eA qE (show _=some Rg from rfl) ?_);have hs:=hs.split.drop.split.drop.split.drop.split.drop.split;exact hs.fresh
theorem C259 (k:Int) (w:World) (hk:0≤k∧k≤15):CR 259 [.int .i64 k] w (λ v w'=>v = .string (Mc k)∧Ext w w'):=by
 have hs:=St.start w;refine abN _ _ _ ?_;unfold S259;refine bX (Db) hs mX rfl rfl (eL rfl) (λ ash w1 hs=>?_);have hsl:Db.length=16:=rfl;obtain ⟨aze,Mg⟩:=gx (Db) (i:=(k).toNat) (by omega);refine dU hs mX (by omega) (by omega) (λ _ SC=>gk hs ke SC Mg ?_);refine ⟨?_,hs.drop.aE⟩;unfold Mc;rw [Mg]; rfl
theorem C263 (lv:Value) (l:List bI) (i e:Int) (w:World) (hL:eE (λ _=>True) w lv l) (hk:iz l):CR 263 [lv,.int .i64 i,.int .i64 e] w (λ v w'=>∃ sh:dR,v=Flat.val sh∧lW (eB (λ w=>cA.dr w sh (gi l i e))) w w'):=by
 have FL:=hk.n;have hn:l.length≤1000000:=by omega
 have ti:=hk.at_;have hs:=St.start w;refine abR _ _ _ _ _ ?_;unfold S263;refine aJ hs sr (λ Ot w1 hs=>?_);have hs:=hs.enc (cs':=Flat.enc (⟨⟨none,0,0⟩,0,0,0⟩:dR)) rfl;refine ⟨λ jv w'=>jv = .int .i64 (if (l.length:Int)≤i then 6 else e)∧w1=w',?_,?_⟩
 ·refine aK fG (hL.ext hs.aE) (dH (aC (λ fH=>?_) (λ fH=>?_)))
  ·exact ⟨by rw [if_pos (by omega)],rfl⟩
  ·exact ⟨by rw [if_neg (by omega)],rfl⟩
 ·rintro _ w2 ⟨rfl,hw⟩ fz;subst hw;refine aZ GA hs (C215 _ l i _ (hL.ext hs.aE) hn ti) (λ w3 he hs=>pop (Nw _ _) (aI (x:=(⟨⟨none,0,0⟩,0,(if (l.length:Int)≤i then 6 else e),(mQ l i)⟩:dR)) hs fT rfl rfl (λ w4 hs=>aD fT hs.At ?_)));have hs:=hs.gH (Φ:=(λ w=>cA.dr w (⟨⟨none,0,0⟩,0,(if (l.length:Int)≤i then 6 else e),(mQ l i)⟩:dR) (⟨[],0,(if (l.length:Int)≤i then 6 else e),(mQ l i)⟩:fI))) (λ w=>⟨_,rfl,DL.nil _⟩);have hs:=(hs.p1).drop;exact ⟨_,rfl,hs.fresh⟩
set_option maxHeartbeats 2000000 in
theorem C257 (l:List bI) (rec:Int→Int→Int→Option fI) (lv:Value) (i d:Int) (r:fI) (w:World) (hL:eE (λ _=>True) w lv l) (hk:iz l) (HR:ak4 l rec) (h0:0≤i∧i≤l.length) (hd:0≤d∧d≤12) (hr:pk rec l i d=some r):CR 257 [lv,.int .i64 i,.int .i64 d] w (λ v w'=>∃ sh:dR,v=Flat.val sh∧lW (eB (λ w=>cA.dr w sh r)) w w'):=by
 have FL:=hk.n;have hn:l.length≤1000000:=by omega
 have ti:=hk.at_;have hs:=St.start w;refine abL _ _ _ _ _ ?_;unfold S257;refine aJ hs sr (λ Ot w1 hs=>have hs:=hs.enc (cs':=Flat.enc (⟨⟨none,0,0⟩,0,0,0⟩:dR)) rfl;aK fG (hL.ext hs.aE) (dH (aC (λ eF=>?_) (λ eF=>?_))))
 ·refine ed Qe (C263 _ l i 6 _ (hL.ext hs.aE) hk) ?_;rintro _ w2 ⟨ak5,rfl,bV⟩;have hs:=hs.made bV;obtain ⟨AT,OS,_⟩:=(hs).eB;subst OS;refine aI (x:=(⟨AT,((gi l i 6)).to,((gi l i 6)).e,((gi l i 6)).at_⟩:dR)) hs.p1 fT rfl rfl (λ w3 hs=>aD fT hs.At ?_);have hR:r=(⟨((gi l i 6)).l,((gi l i 6)).to,((gi l i 6)).e,((gi l i 6)).at_⟩:fI):=OP hr (by omega);rw [hR];have hs:=hs.p1.dO (Ψ:=(λ w=>cA.dr w (⟨AT,((gi l i 6)).to,((gi l i 6)).e,((gi l i 6)).at_⟩:dR) (⟨((gi l i 6)).l,((gi l i 6)).to,((gi l i 6)).e,((gi l i 6)).at_⟩:fI))) (λ w h=>⟨_,rfl,ld (h)⟩)
  have hs:=(hs.p1).drop;exact ⟨_,rfl,hs.fresh⟩
 ·obtain ⟨t,ht⟩:∃ t,l[i.toNat]? = some t:=⟨_,List.getElem?_eq_getElem (by omega)⟩;have hta:=ti t (List.mem_of_getElem? ht);refine ⟨λ jv w'=>jv = .bool (S7 l i)∧St w bD [cE Ot (Flat.enc (⟨⟨none,0,0⟩,0,0,0⟩:dR))] w',?_,?_⟩
  ·refine aZ vA hs (C211 _ l i (ByteArray.mk #[33]) _ (hL.ext hs.aE) hn) (λ w4 he hs=>aY (λ iu=>?_) (λ iu=>?_))
   ·exact ⟨vb (by unfold S7; rw [iu]; rfl),hs⟩
   ·refine aZ vA hs (C211 _ l i (ByteArray.mk #[45]) _ (hL.ext hs.aE) hn) (λ w5 he hs=>?_);exact ⟨vb (by unfold S7; rw [iu]; rfl),hs⟩
  ·rintro _ w6 ⟨rfl,hs⟩ fz;refine aZ vA hs (C211 _ l i (ByteArray.mk #[40]) _ (hL.ext hs.aE) hn) (λ w7 he hs=>?_);refine ⟨λ jv w'=>jv = .bool ((S7 l i || sR l i (ByteArray.mk #[40])) && decide (d=12))∧St w bD [cE Ot (Flat.enc (⟨⟨none,0,0⟩,0,0,0⟩:dR))] w',?_,?_⟩
   ·refine aY (λ nN=>?_) (λ nN=>?_)
    ·refine aH ?_;exact ⟨vb (by first | (rw [nN]; simp; done) | (rw [nN,nI]; simp; done) | (rw [nN]; rfl) | (rw [nN,nI]; rfl)),hs⟩
    ·refine aY (λ nI=>?_) (λ nI=>?_)
     ·refine aH ?_;exact ⟨vb (by first | (rw [nN]; simp; done) | (rw [nN,nI]; simp; done) | (rw [nN]; rfl) | (rw [nN,nI]; rfl)),hs⟩
     ·exact ⟨vb (by first | (rw [nN]; simp; done) | (rw [nN,nI]; simp; done) | (rw [nN]; rfl) | (rw [nN,nI]; rfl)),hs⟩
   ·rintro _ w8 ⟨rfl,hs⟩ jB;refine aY (λ mi=>?_) (λ mi=>?_)
    ·refine ed Qe (C263 _ l i 7 _ (hL.ext hs.aE) hk) ?_;rintro _ w9 ⟨azf,rfl,bV⟩;have hs:=hs.made bV;obtain ⟨Ri,ak6,_⟩:=(hs).eB;subst ak6;refine aI (x:=(⟨Ri,((gi l i 7)).to,((gi l i 7)).e,((gi l i 7)).at_⟩:dR)) hs.p1 fT rfl rfl (λ pP hs=>aD fT hs.At ?_);have hR:r=(⟨((gi l i 7)).l,((gi l i 7)).to,((gi l i 7)).e,((gi l i 7)).at_⟩:fI):=Md hr (by omega) ht mi;rw [hR];have hs:=hs.p1.dO (Ψ:=(λ w=>cA.dr w (⟨Ri,((gi l i 7)).to,((gi l i 7)).e,((gi l i 7)).at_⟩:dR) (⟨((gi l i 7)).l,((gi l i 7)).to,((gi l i 7)).e,((gi l i 7)).at_⟩:fI))) (λ w h=>⟨_,rfl,ld (h)⟩)
     have hs:=(hs.p1).drop;exact ⟨_,rfl,hs.fresh⟩
    ·refine aY (λ nN=>?_) (λ nN=>?_)
     ·refine aO (by omega) (aO (by omega) ?_);have azg:¬ d=12:=λ h=>by rw [nN,decide_eq_true h] at mi; cases mi
      obtain ⟨x1,hx1,Pz,hrx⟩:=S8 hr (by omega) ht mi nN;refine ed afE ((HR _ (i+1) (d+1) 5 x1 _ (hL.ext hs.aE) hx1 (by omega) (by omega) (by omega)).2 rfl) ?_;rintro _ sB ⟨azh,rfl,bV⟩;have hs:=hs.made bV;obtain ⟨Dc,ak7,_⟩:=(hs).eB;subst ak7;refine aJ hs sr (λ Eb u7 hs=>have hs:=hs.enc (cs':=Flat.enc (⟨⟨none,0,0⟩,0,0,0⟩:dR)) rfl;aI (x:=(⟨Dc,(x1).to,(x1).e,(x1).at_⟩:dR)) hs fT rfl rfl (λ u9 hs=>aA uc (aB (v:=.int .i64 (x1).e) nu hs.hb rfl (cO (aC (λ pR=>?_) (λ pR=>?_))))))
      ·refine aD fT hs.At (aI (x:=(⟨Dc,(x1).to,(x1).e,(x1).at_⟩:dR)) hs.p2 fT rfl rfl (λ r9 hs=>aD fT hs.At ?_));have hR:r=(⟨(x1).l,(x1).to,(x1).e,(x1).at_⟩:fI):=hrx.trans (if_pos pR);rw [hR];have hs:=hs.p2.dO (Ψ:=(λ w=>cA.dr w (⟨Dc,(x1).to,(x1).e,(x1).at_⟩:dR) (⟨(x1).l,(x1).to,(x1).e,(x1).at_⟩:fI))) (λ w h=>⟨_,rfl,ld (h)⟩);have hs:=((hs.p1.drop).p1).drop;exact ⟨_,rfl,hs.fresh⟩
      ·refine ⟨λ jv w'=>jv = .int .i64 (if t.text=ByteArray.mk #[45] then 3 else 4)∧u9=w',?_,?_⟩
       ·refine aQ fG (hL.ext hs.aE) (by omega) ht (λ _ Ec=>bT (t).text m8 Ec rfl rfl (λ _ LQ=>aD ke (LQ) (uf (aC (λ uq=>?_) (λ uq=>?_)))))
        ·exact ⟨by rw [if_pos uq],rfl⟩
        ·exact ⟨by rw [if_neg uq],rfl⟩
       ·rintro _ vT ⟨rfl,hw⟩ oN;subst hw;obtain ⟨op,ag5⟩:∃ op,op=(if t.text=ByteArray.mk #[45] then (3:Int) else 4):=⟨_,rfl⟩;rw [← ag5];refine aQ fG (hL.ext hs.aE) (by omega) ht (λ _ LD=>bT (t).at_ lq LD rfl rfl (λ _ Lk=>aD bN (Lk) (pop (DW _ _) (bX ([(⟨op,0,(ByteArray.mk #[]),(t).at_⟩:dC)]) hs lV rfl rfl (eL rfl) (λ s_x66 yO hs=>aA rp (aB (v:=Flat.val (Dc:SV)) mW hs.p1.hb rfl ?_))))));have BD:=(DL.flat (ld (hs.p2).eB));refine cP hs lV BD (by simp; omega) (by decide) (λ agQ B6 hs=>aA rp ?_);obtain ⟨OT,rfl⟩:=(hs).fR
        refine aV hs.p1 mW (eL rfl) (rfl) (λ GQ hs=>have hs:=hs.enc (cs':=Flat.enc (⟨OT,(x1).to,(x1).e,(x1).at_⟩:dR)) rfl;aD fT hs.At (aI (x:=(⟨OT,(x1).to,(x1).e,(x1).at_⟩:dR)) hs.p3 fT rfl rfl (λ IF hs=>aD fT hs.At ?_)));have hR:r=(⟨([(⟨op,0,(ByteArray.mk #[]),(t).at_⟩:dC)]++(x1).l),(x1).to,(x1).e,(x1).at_⟩:fI):=by rw [hrx,if_neg pR,← ag5]
        rw [hR];have hs:=hs.p2.freeze.dO (Ψ:=(λ w=>cA.dr w (⟨OT,(x1).to,(x1).e,(x1).at_⟩:dR) (⟨([(⟨op,0,(ByteArray.mk #[]),(t).at_⟩:dC)]++(x1).l),(x1).to,(x1).e,(x1).at_⟩:fI))) (λ w h=>⟨_,rfl,DL.fu h⟩);have hs:=(((hs.p1.drop.p1).drop).p1).drop;exact ⟨_,rfl,hs.fresh⟩
     ·refine aY (λ nI=>?_) (λ nI=>?_)
      ·refine aO (by omega) (aO (by omega) ?_);have azg:¬ d=12:=λ h=>by rw [nN,nI,decide_eq_true h] at mi; cases mi
       obtain ⟨x1,hx1,hrx⟩:=Me hr (by omega) ht mi nN nI;refine ed Qd ((HR _ (i+1) (d+1) 0 x1 _ (hL.ext hs.aE) hx1 (by omega) (by omega) (by omega)).1) ?_;rintro _ JH ⟨azi,rfl,bV⟩;have hs:=hs.made bV;obtain ⟨xJ,ak8,_⟩:=(hs).eB;subst ak8;refine aJ hs sr (λ Vg Lr hs=>have hs:=hs.enc (cs':=Flat.enc (⟨⟨none,0,0⟩,0,0,0⟩:dR)) rfl;aI (x:=(⟨xJ,(x1).to,(x1).e,(x1).at_⟩:dR)) hs fT rfl rfl (λ NS hs=>aA uc (aB (v:=.int .i64 (x1).e) nu hs.hb rfl (cO (aC (λ Rj=>?_) (λ Rj=>?_))))))
       ·refine aD fT hs.At (aI (x:=(⟨xJ,(x1).to,(x1).e,(x1).at_⟩:dR)) hs.p2 fT rfl rfl (λ Sy hs=>aD fT hs.At ?_));have hR:r=(⟨(x1).l,(x1).to,(x1).e,(x1).at_⟩:fI):=hrx.trans (if_pos Rj);rw [hR];have hs:=hs.p2.dO (Ψ:=(λ w=>cA.dr w (⟨xJ,(x1).to,(x1).e,(x1).at_⟩:dR) (⟨(x1).l,(x1).to,(x1).e,(x1).at_⟩:fI))) (λ w h=>⟨_,rfl,ld (h)⟩);have hs:=((hs.p1.drop).p1).drop;exact ⟨_,rfl,hs.fresh⟩
       ·refine aA oe (aB (v:=.int .i64 (x1).to) bN hs.hb rfl (aZ vA hs (C211 _ l (x1).to (ByteArray.mk #[41]) _ (hL.ext hs.aE) hn) (λ TU he hs=>bZ (aY (λ Rk=>?_) (λ Rk=>?_)))))
        ·refine aA oe (aB (v:=.int .i64 (x1).to) bN hs.hb rfl (ed Qe (C263 _ l (x1).to 5 _ (hL.ext hs.aE) hk) ?_));rintro _ QQ ⟨azj,rfl,bV⟩;have hs:=hs.made bV;obtain ⟨Rl,ak9,_⟩:=(hs).eB;subst ak9;refine aI (x:=(⟨Rl,((gi l (x1).to 5)).to,((gi l (x1).to 5)).e,((gi l (x1).to 5)).at_⟩:dR)) hs.p3 fT rfl rfl (λ Y6 hs=>aD fT hs.At ?_);have hR:r=(⟨((gi l (x1).to 5)).l,((gi l (x1).to 5)).to,((gi l (x1).to 5)).e,((gi l (x1).to 5)).at_⟩:fI):=hrx.trans ((if_neg Rj).trans (if_neg (by simpa using Rk)));rw [hR];have hs:=hs.p1.dO (Ψ:=(λ w=>cA.dr w (⟨Rl,((gi l (x1).to 5)).to,((gi l (x1).to 5)).e,((gi l (x1).to 5)).at_⟩:dR) (⟨((gi l (x1).to 5)).l,((gi l (x1).to 5)).to,((gi l (x1).to 5)).e,((gi l (x1).to 5)).at_⟩:fI))) (λ w h=>⟨_,rfl,ld (h)⟩)
         have hs:=(((hs.p1.drop.p1).drop).p1).drop;exact ⟨_,rfl,hs.fresh⟩
        ·refine aA oe (aB (v:=.int .i64 (x1).to) bN hs.hb rfl ?_);have vB:=rT (l:=l) (i:=x1.to) (t:=ByteArray.mk #[41]) (by simpa using Rk);refine aO (by omega) (aA oe (aV hs bN (eL rfl) (rfl) (λ Y7 hs=>have hs:=hs.enc (cs':=Flat.enc (⟨xJ,((x1).to+1),(x1).e,(x1).at_⟩:dR)) rfl;aD fT hs.At (aI (x:=(⟨xJ,((x1).to+1),(x1).e,(x1).at_⟩:dR)) hs.p2 fT rfl rfl (λ w28 hs=>aD fT hs.At ?_)))));have hR:r=(⟨(x1).l,((x1).to+1),(x1).e,(x1).at_⟩:fI):=hrx.trans ((if_neg Rj).trans (if_pos (by simpa using Rk)));rw [hR];have hs:=hs.p2.dO (Ψ:=(λ w=>cA.dr w (⟨xJ,((x1).to+1),(x1).e,(x1).at_⟩:dR) (⟨(x1).l,((x1).to+1),(x1).e,(x1).at_⟩:fI))) (λ w h=>⟨_,rfl,ld (h)⟩)
         have hs:=((hs.p1.drop).p1).drop;exact ⟨_,rfl,hs.fresh⟩
      ·have QH:=Mf hr (by omega) ht mi nN nI;refine aQ fG (hL.ext hs.aE) (by omega) ht (λ _ ala=>bT (t).kind lj ala rfl rfl (λ _ alb=>aD bN (alb) (aH (aC (λ Jo=>?_) (λ Jo=>?_)))))
       ·refine aQ fG (hL.ext hs.aE) (by omega) ht (λ _ alc=>bT (t).n rn alc rfl rfl (λ _ ald=>have hs:=hs.drew;aD bN (ald) (aQ fG (hL.ext hs.aE) (by omega) ht (λ _ ale=>bT (t).at_ lq ale rfl rfl (λ _ NP=>aD bN (NP) (pop (Iy _ _ _) (aO (by omega) (bX ([(⟨1,(t).n,(ByteArray.mk #[]),(t).at_⟩:dC)]) hs lV rfl rfl (eL rfl) (λ aj5 w29 hs=>?_)))))))));obtain ⟨Rm,rfl⟩:=(hs).fR;refine pop (yN _ _ _ _) (aI (x:=(⟨Rm,(i+1),0,0⟩:dR)) hs.p1 fT rfl rfl (λ w30 hs=>aD fT hs.At ?_));have hR:r=(⟨[(⟨1,(t).n,(ByteArray.mk #[]),(t).at_⟩:dC)],(i+1),0,0⟩:fI):=QH.trans (if_pos Jo)
        rw [hR];have hs:=hs.p1.freeze.dO (Ψ:=(λ w=>cA.dr w (⟨Rm,(i+1),0,0⟩:dR) (⟨[(⟨1,(t).n,(ByteArray.mk #[]),(t).at_⟩:dC)],(i+1),0,0⟩:fI))) (λ w h=>⟨_,rfl,DL.fu h⟩);have hs:=(hs.p1).drop;exact ⟨_,rfl,hs.fresh⟩
       ·refine ⟨λ jv w'=>jv = .bool (decide (t.kind=1) && j4 t.text)∧St w bD [cE Ot (Flat.enc (⟨⟨none,0,0⟩,0,0,0⟩:dR))] w',?_,?_⟩
        ·refine aQ fG (hL.ext hs.aE) (by omega) ht (λ _ alf=>bT (t).kind lj alf rfl rfl (λ _ alg=>aD bN (alg) (aH (aC (λ yX=>?_) (λ yX=>?_)))))
         ·refine aQ fG (hL.ext hs.aE) (by omega) ht (λ _ alh=>bT (t).text m8 alh rfl rfl (λ _ ali=>aD ke (ali) (aZ tO hs (C161 _ _ (by omega)) (λ w31 he hs=>?_))));exact ⟨vb (by rw [decide_eq_true yX]; rfl),hs⟩
         ·exact ⟨vb (by rw [decide_eq_false yX]; rfl),hs⟩
        ·rintro _ w32 ⟨rfl,hs⟩ F6;refine aY (λ E1=>?_) (λ E1=>?_)
         ·refine aQ fG (hL.ext hs.aE) (by omega) ht (λ _ alj=>bT (t).text m8 alj rfl rfl (λ _ alk=>have hs:=hs.drew;aD ke (alk) (aQ fG (hL.ext hs.aE) (by omega) ht (λ _ alm=>bT (t).at_ lq alm rfl rfl (λ _ NR=>aD bN (NR) (pop (Iz _ _ _) (aO (by omega) (bX ([(⟨2,0,(t).text,(t).at_⟩:dC)]) hs lV rfl rfl (eL rfl) (λ azk w33 hs=>?_)))))))));obtain ⟨Rn,rfl⟩:=(hs).fR;refine pop (yN _ _ _ _) (aI (x:=(⟨Rn,(i+1),0,0⟩:dR)) hs.p1 fT rfl rfl (λ w34 hs=>aD fT hs.At ?_));have hR:r=(⟨[(⟨2,0,(t).text,(t).at_⟩:dC)],(i+1),0,0⟩:fI):=QH.trans ((if_neg Jo).trans (if_pos E1))
          rw [hR];have hs:=hs.p1.freeze.dO (Ψ:=(λ w=>cA.dr w (⟨Rn,(i+1),0,0⟩:dR) (⟨[(⟨2,0,(t).text,(t).at_⟩:dC)],(i+1),0,0⟩:fI))) (λ w h=>⟨_,rfl,DL.fu h⟩);have hs:=(hs.p1).drop;exact ⟨_,rfl,hs.fresh⟩
         ·refine ed Qe (C263 _ l i 5 _ (hL.ext hs.aE) hk) ?_;rintro _ w35 ⟨aui,rfl,bV⟩;have hs:=hs.made bV;obtain ⟨Mh,aei,_⟩:=(hs).eB;subst aei;refine aI (x:=(⟨Mh,((gi l i 5)).to,((gi l i 5)).e,((gi l i 5)).at_⟩:dR)) hs.p1 fT rfl rfl (λ w36 hs=>aD fT hs.At ?_);have hR:r=(⟨((gi l i 5)).l,((gi l i 5)).to,((gi l i 5)).e,((gi l i 5)).at_⟩:fI):=QH.trans ((if_neg Jo).trans (if_neg (by simpa using E1)));rw [hR];have hs:=hs.p1.dO (Ψ:=(λ w=>cA.dr w (⟨Mh,((gi l i 5)).to,((gi l i 5)).e,((gi l i 5)).at_⟩:dR) (⟨((gi l i 5)).l,((gi l i 5)).to,((gi l i 5)).e,((gi l i 5)).at_⟩:fI))) (λ w h=>⟨_,rfl,ld (h)⟩)
          have hs:=(hs.p1).drop;exact ⟨_,rfl,hs.fresh⟩
theorem XV {l:List bI} {i:Int} {R:List dC × Int × Int × Int} (h:vK l i=some R) (hi:¬ i<0):∃ x,Hx l 10000 i 0 0=some x∧
  (if x.e≠0 then some ([],0,x.e,x.at_) else match yR x.l,l[i.toNat]? with
  | some t,some k=>if x.l.length≤10000 then (if 12<t.depth then some ([],0,7,k.at_) else if 40<x.l.length then some ([],0,2,k.at_) else some (x.l,x.to,0,0)) else none
  | _,_=>none)=some R:=by
 unfold vK at h; rw [if_neg hi] at h
 cases hx:Hx l 10000 i 0 0 with
 | none=>rw [hx] at h; cases h
 | some x=>rw [hx] at h; exact ⟨x,rfl,h⟩
theorem OU {x:fI} {o:Option bI} {R:List dC × Int × Int × Int} (h:(match yR x.l,o with
  | some t,some k=>if x.l.length≤10000 then (if 12<t.depth then some ([],0,7,k.at_) else if 40<x.l.length then some ([],0,2,k.at_) else some (x.l,x.to,0,0)) else none
  | _,_=>none)=some R):∃ t k,yR x.l=some t∧o=some k∧x.l.length≤10000∧(if 12<t.depth then some ([],0,7,k.at_) else if 40<x.l.length then some ([],0,2,k.at_) else some (x.l,x.to,0,0))=some R:=by
 cases he:yR x.l with
 | none=>rw [he] at h; cases h
 | some t=>
  cases o with
  | none=>rw [he] at h; cases h
  | some k=>
   rw [he] at h; dsimp only at h
   split at h
   ·rename_i hl; exact ⟨t,k,rfl,rfl,hl,h⟩
   ·cases h
set_option maxHeartbeats 2000000 in
theorem C235 (l:List bI) (j:Nat) (lv:Value) (i d n:Int) (r:fI) (w:World) (hL:eE (λ _=>True) w lv l) (hk:iz l) (HR:ak4 l (Hx l j)) (h0:0≤i∧i≤l.length) (hd:0≤d∧d≤12) (hnn:0≤n∧n≤5) (hr:Hx l (j+1) i d n=some r):CR 235 [lv,.int .i64 i,.int .i64 d,.int .i64 n] w (λ v w'=>∃ sh:dR,v=Flat.val sh∧lW (eB (λ w=>cA.dr w sh r)) w w'):=by
 have FL:=hk.n;have hn:l.length≤1000000:=by omega
 have ti:=hk.at_;have hs:=St.start w;refine abo _ _ _ _ _ _ ?_;unfold S235;refine aJ hs sr (λ Bq w1 hs=>have hs:=hs.enc (cs':=Flat.enc (⟨⟨none,0,0⟩,0,0,0⟩:dR)) rfl;aH (aC (λ js=>?_) (λ js=>?_)))
 ·refine ed afE (C257 l (Hx l j) _ i d r _ (hL.ext hs.aE) hk HR h0 hd (ag4 (by rw [js] at hr; exact hr))) ?_;rintro _ w2 ⟨ak5,rfl,bV⟩;have hs:=hs.made bV;obtain ⟨AT,OS,_⟩:=(hs).eB;subst OS;refine aI (x:=(⟨AT,(r).to,(r).e,(r).at_⟩:dR)) hs.p1 fT rfl rfl (λ w3 hs=>aD fT hs.At ?_);have hR:r=(⟨(r).l,(r).to,(r).e,(r).at_⟩:fI):=rfl;rw [hR];have hs:=hs.p1.dO (Ψ:=(λ w=>cA.dr w (⟨AT,(r).to,(r).e,(r).at_⟩:dR) (⟨(r).l,(r).to,(r).e,(r).at_⟩:fI))) (λ w h=>⟨_,rfl,ld (h)⟩);have hs:=(hs.p1).drop;exact ⟨_,rfl,hs.fresh⟩
 ·obtain ⟨x1,hx1,azl⟩:=asg hr js;refine aO (by omega) (ed Qd ((HR _ i d (n+1) x1 _ (hL.ext hs.aE) hx1 h0 hd (by omega)).1) ?_);rintro _ w4 ⟨azm,rfl,bV⟩;have hs:=hs.made bV;obtain ⟨Jp,aln,_⟩:=(hs).eB;subst aln;refine aJ hs sr (λ Eb w5 hs=>have hs:=hs.enc (cs':=Flat.enc (⟨⟨none,0,0⟩,0,0,0⟩:dR)) rfl;aI (x:=(⟨Jp,(x1).to,(x1).e,(x1).at_⟩:dR)) hs fT rfl rfl (λ w6 hs=>?_));have hs:=hs.p2.p2.p2.p1.dO (Ψ:=λ w=>DL w (Flat.val Jp) (x1).l) (λ w h=>ld h);have hs:=hs.p2.p1.p2;refine ⟨λ mm w'=>∃ (x:fI) (g:SV),vJ (Hx l j) l d n mm x=some r∧St w bD [cE Eb (Flat.enc (⟨g,(x).to,(x).e,(x).at_⟩:dR)),eB (λ w=>DL w (Flat.val g) (x).l),cE Bq (Flat.enc (⟨⟨none,0,0⟩,0,0,0⟩:dR))] w',⟨j,x1,Jp,azl,hs⟩,?_⟩
  rintro mm w7 ⟨x,g,Mi,hs⟩ fz;obtain ⟨j2,rfl⟩:=OQ Mi;refine aA uc (aB (v:=.int .i64 (x).e) nu hs.hb rfl (aH (aC (λ LL=>?_) (λ LL=>?_))))
  ·have hs:=hs.p2.p2.p2;refine ⟨λ mm o kk w'=>∃ k:Nat,o = .int .i64 (Fp l x.to n k)∧kk = .int .i64 (k:Int)∧mm=(qp n).length - k∧k≤(qp n).length∧St w bD [cE Eb (Flat.enc (⟨g,(x).to,(x).e,(x).at_⟩:dR)),eB (λ w=>DL w (Flat.val g) (x).l),cE Bq (Flat.enc (⟨⟨none,0,0⟩,0,0,0⟩:dR))] w',⟨_,0,rfl,rfl,rfl,Nat.zero_le _,hs⟩,?_⟩;rintro mm _ _ w8 ⟨k,rfl,rfl,rfl,KW,hs⟩ jB;have hfl4:=OR n;refine cZ UD hs (C258 n _ (by omega)) (λ x31 w9 bV hs=>aK ek (hs).fB (aR (aC (λ nH=>?_) (λ nH=>?_))))
   ·refine ⟨λ jv w'=>jv = .int .i64 (Fp l x.to n (k+1))∧St w bD [cE Eb (Flat.enc (⟨g,(x).to,(x).e,(x).at_⟩:dR)),eB (λ w=>DL w (Flat.val g) (x).l),cE Bq (Flat.enc (⟨⟨none,0,0⟩,0,0,0⟩:dR))] w',?_,?_⟩
    ·refine aA oe (have hs:=hs.drew;aB (v:=.int .i64 (x).to) bN hs.p1.hb rfl (cZ UD hs (C258 n _ (by omega)) (λ x40 pP bV hs=>?_)));refine ⟨aG bN (hs.p2.hb.cell rfl),?_⟩;obtain ⟨ag6,Fq⟩:=gx ((qp n)) (i:=((k:Int)).toNat) (by omega);refine dU hs ek (by omega) (by omega) (λ _ asi=>gk hs bN asi Fq ?_);have hfb:=XS Fq;refine aZ aoF hs (C259 ag6 _ (by omega)) (λ sB he hs=>?_);refine ⟨aG bN (hs.p2.hb.cell rfl),?_⟩;refine aZ vA hs (C211 _ l (x).to (Mc ag6) _ (hL.ext hs.aE) hn) (λ u7 he hs=>aY (λ kN=>?_) (λ kN=>?_))
     ·refine cZ UD hs (C258 n _ (by omega)) (λ x47 u9 bV hs=>dU hs ek (by omega) (by omega) (λ _ ED=>gk hs bN ED Fq ?_));have hs:=(((((((hs.drop)).drop)).drop).p2).p2).p2;exact ⟨by rw [Hw (k:=k) Fq,if_pos kN] <;> rfl,hs⟩
     ·have hs:=(((((hs.drop)).drop).p2).p2).p2;exact ⟨by rw [Hw (k:=k) Fq,if_neg (by simpa using kN)] <;> rfl,hs⟩
    ·rintro _ r9 ⟨rfl,hs⟩ oN;refine aO (by omega) ?_;exact ⟨_,by omega,k+1,rfl,rfl,rfl,by omega,hs⟩
   ·have jT:Fp l x.to n k=Jn l x.to n:=by unfold Jn; rw [show k=(qp n).length from by omega]
    refine aH (aC (λ sJ=>?_) (λ sJ=>?_))
    ·refine aD fT hs.p1.At (aI (x:=(⟨g,(x).to,(x).e,(x).at_⟩:dR)) hs.p3 fT rfl rfl (λ vT hs=>aD fT hs.At ?_));have hR:r=(⟨(x).l,(x).to,(x).e,(x).at_⟩:fI):=XT (x:=x) Mi (by omega) (by rw [← jT]; exact sJ);rw [hR];have hs:=hs.p3.dO (Ψ:=(λ w=>cA.dr w (⟨g,(x).to,(x).e,(x).at_⟩:dR) (⟨(x).l,(x).to,(x).e,(x).at_⟩:fI))) (λ w h=>⟨_,rfl,id (h)⟩);have hs:=(((hs.p1.drop.p1).drop).p1).drop;exact ⟨_,rfl,hs.fresh⟩
    ·obtain ⟨t,y,h0t,ht,hy,hye,hyn⟩:=XU Mi (by omega) (by rw [← jT]; exact sJ);have Nk:=(List.getElem?_eq_some_iff.1 ht).1;refine aA oe (aB (v:=.int .i64 (x).to) bN hs.p1.hb rfl (aO (by omega) (aO (by omega) (ed Qd ((HR _ (x.to+1) d (n+1) y _ (hL.ext hs.aE) hy (by omega) hd (by omega)).1) ?_))));rintro _ yO ⟨azo,rfl,bV⟩;have hs:=hs.made bV;obtain ⟨Dd,alo,_⟩:=(hs).eB;subst alo;refine aJ hs sr (λ b_y12 B6 hs=>have hs:=hs.enc (cs':=Flat.enc (⟨⟨none,0,0⟩,0,0,0⟩:dR)) rfl;aI (x:=(⟨Dd,(y).to,(y).e,(y).at_⟩:dR)) hs fT rfl rfl (λ GQ hs=>aA uc (aB (v:=.int .i64 (y).e) nu hs.hb rfl (cO (aC (λ qD=>?_) (λ qD=>?_))))))
     ·refine aD fT hs.At (aI (x:=(⟨Dd,(y).to,(y).e,(y).at_⟩:dR)) hs.p5 fT rfl rfl (λ IF hs=>aD fT hs.At ?_));have hR:r=(⟨(y).l,(y).to,(y).e,(y).at_⟩:fI):=hye qD;rw [hR];have hs:=hs.p2.dO (Ψ:=(λ w=>cA.dr w (⟨Dd,(y).to,(y).e,(y).at_⟩:dR) (⟨(y).l,(y).to,(y).e,(y).at_⟩:fI))) (λ w h=>⟨_,rfl,ld (h)⟩);have hs:=(((((hs.p1.drop.p1.drop.p1).drop).p1).drop).p1).drop;exact ⟨_,rfl,hs.fresh⟩
     ·refine aA oe (aB (v:=.int .i64 (x).to) bN hs.p3.hb rfl (aQ fG (hL.ext hs.aE) (by omega) ht (λ _ LA=>bT (t).at_ lq LA rfl rfl (λ _ asj=>aD bN (asj) (pop (DW _ _) (bX ([(⟨(Fp l x.to n k),0,(ByteArray.mk #[]),(t).at_⟩:dC)]) hs lV rfl rfl (eL rfl) (λ agb JH hs=>aA rp (aB (v:=Flat.val (g:SV)) mW hs.p4.hb rfl ?_))))))));have NH:=(hyn (by omega)).1;have alp:=(DL.flat (id (hs.p5).eB));refine cP hs lV alp (by simp; omega) (by decide) (λ aqH Lr hs=>aA rp (aB (v:=Flat.val (Dd:SV)) mW hs.p1.hb rfl ?_));have alq:=(DL.flat (ld (hs.p2).eB))
      refine cP hs lV alq (by simp; omega) (by decide) (λ s_x82 NS hs=>aA oe (aB (v:=.int .i64 (y).to) bN hs.p1.hb rfl ?_));obtain ⟨Fs,rfl⟩:=(hs).fR;refine pop (yN _ _ _ _) (aI (x:=(⟨Fs,(y).to,0,0⟩:dR)) hs.p4 fT rfl rfl (λ Sy hs=>aH (aC (λ EJ=>?_) (λ EJ=>?_))))
      ·refine aD fT hs.At (aI (x:=(⟨Fs,(y).to,0,0⟩:dR)) hs.p6 fT rfl rfl (λ TU hs=>aD fT hs.At ?_));have hR:r=(⟨(([(⟨(Fp l x.to n k),0,(ByteArray.mk #[]),(t).at_⟩:dC)]++(x).l)++(y).l),(y).to,0,0⟩:fI):=((hyn (by omega)).2.1 EJ).trans (by rw [← jT]);rw [hR];have hs:=hs.p2.freeze.dO (Ψ:=(λ w=>cA.dr w (⟨Fs,(y).to,0,0⟩:dR) (⟨(([(⟨(Fp l x.to n k),0,(ByteArray.mk #[]),(t).at_⟩:dC)]++(x).l)++(y).l),(y).to,0,0⟩:fI))) (λ w h=>⟨_,rfl,DL.fu h⟩);have hs:=((((((hs.p1.drop.p1.drop.p1.drop).p1).drop).p1).drop).p1).drop;exact ⟨_,rfl,hs.fresh⟩
      ·have hs:=hs.p1.freeze.dO (Ψ:=λ w=>DL w (Flat.val Fs) ([(⟨Fp l x.to n k,0,ByteArray.mk #[],t.at_⟩:dC)]++x.l++y.l)) (λ w h=>DL.fu h);have hs:=((((hs.p2.drop.p2.drop.p2.drop.p2).drop).p2).p1).p2;have vH:=(hyn (by omega)).2.2 EJ;rw [← jT] at vH;exact ⟨_,by omega,⟨_,_,_,_⟩,Fs,vH,hs⟩
  ·refine aD fT hs.At (aI (x:=(⟨g,(x).to,(x).e,(x).at_⟩:dR)) hs.p2 fT rfl rfl (λ QQ hs=>aD fT hs.At ?_));have hR:r=(⟨(x).l,(x).to,(x).e,(x).at_⟩:fI):=aeg (x:=x) Mi (by omega);rw [hR];have hs:=hs.p2.dO (Ψ:=(λ w=>cA.dr w (⟨g,(x).to,(x).e,(x).at_⟩:dR) (⟨(x).l,(x).to,(x).e,(x).at_⟩:fI))) (λ w h=>⟨_,rfl,id (h)⟩);have hs:=((hs.p1.drop).p1).drop;exact ⟨_,rfl,hs.fresh⟩
theorem alr {l:List bI} (hk:iz l):∀ j,ak4 l (Hx l j)
 | 0=>λ lv i d n r w hL hr=>by cases hr
 | j+1=>λ lv i d n r w hL hr h0 hd hn=>⟨C235 l j lv i d n r w hL hk (alr hk j) h0 hd hn hr,λ h5=>by subst h5; exact C257 l (Hx l j) lv i d r w hL hk (alr hk j) h0 hd (ag4 hr)⟩
theorem C214 (l:List bI) (lv:Value) (i:Int) (R:List dC × Int × Int × Int) (w:World) (hL:eE (λ _=>True) w lv l) (hk:iz l) (hil:i≤l.length) (hr:vK l i=some R):CR 214 [lv,.int .i64 i] w (λ v w'=>∃ sv:SV,v = .tuple #[Flat.val sv,.int .i64 R.2.1,.int .i64 R.2.2.1,.int .i64 R.2.2.2]∧lW (eB (λ w=>DL w (Flat.val sv) R.1)) w w'):=by
 have FL:=hk.n;have hn:l.length≤1000000:=by omega
 have ti:=hk.at_;have hs:=St.start w;refine aa4 _ _ _ _ ?_;unfold S214;refine aR (aC (λ fH=>?_) (λ fH=>?_))
 ·have hR:R=([],0,1,0):=by
   unfold vK at hr; rw [if_pos fH] at hr; exact (Option.some.inj hr).symm
  rw [hR];exact ⟨⟨none,0,0⟩,rfl,(hs.gH (Φ:=λ w=>DL w (Flat.val (⟨none,0,0⟩:SV)) ([]:List dC)) λ w=>DL.nil w).fresh⟩
 ·obtain ⟨x,hx,Gx⟩:=XV hr (by omega);refine ed Qd ((alr hk 10000 _ i 0 0 x _ (hL.ext hs.aE) hx (by omega) (by omega) (by omega)).1) ?_;rintro _ w1 ⟨azp,rfl,bV⟩;have hs:=hs.made bV;obtain ⟨xK,als,_⟩:=(hs).eB;subst als;refine aJ hs sr (λ Bq w2 hs=>have hs:=hs.enc (cs':=Flat.enc (⟨⟨none,0,0⟩,0,0,0⟩:dR)) rfl;aI (x:=(⟨xK,(x).to,(x).e,(x).at_⟩:dR)) hs fT rfl rfl (λ w3 hs=>aA uc (aB (v:=.int .i64 (x).e) nu hs.hb rfl (cO (aC (λ eF=>?_) (λ eF=>?_))))))
  ·refine aA uc (have hs:=hs.drew;aB (v:=.int .i64 (x).e) nu hs.hb rfl (aA UI (aB (v:=.int .i64 (x).at_) bN hs.hb rfl ?_)))
   have hR:R=([],0,x.e,x.at_):=by
    rw [if_pos eF] at Gx; exact (Option.some.inj Gx).symm
   rw [hR];exact ⟨⟨none,0,0⟩,rfl,(hs.gH (Φ:=λ w=>DL w (Flat.val (⟨none,0,0⟩:SV)) ([]:List dC)) λ w=>DL.nil w).fresh⟩
  ·rw [if_neg eF] at Gx;obtain ⟨tr,tk,htr,S9,Pz,hr3⟩:=OU Gx;have htki:=(List.getElem?_eq_some_iff.1 S9).1;obtain ⟨hwf,Cw⟩:=yS htr;have hAt:JI x.l 0 tr:=⟨by omega,hwf,[],by simpa using Cw⟩;refine aA rp (aB (v:=Flat.val (xK:SV)) mW hs.hb rfl (aZ Uz hs (C162 _ x.l 0 tr (tr.size+1) _ (DL.flat (ld (hs.p1).eB)) (by omega) hAt (by omega)) (λ w4 he hs=>dD (aC (λ iH=>?_) (λ iH=>?_)))))
   ·refine aQ fG (hL.ext hs.aE) (by omega) S9 (λ _ wy=>bT (tk).at_ lq wy rfl rfl (λ _ wC=>have hs:=hs.drew;aD bN (wC) ?_))
    have hR:R=([],0,7,tk.at_):=by
     rw [if_pos iH] at hr3; exact (Option.some.inj hr3).symm
    rw [hR];exact ⟨⟨none,0,0⟩,rfl,(hs.gH (Φ:=λ w=>DL w (Flat.val (⟨none,0,0⟩:SV)) ([]:List dC)) λ w=>DL.nil w).fresh⟩
   ·refine aA rp (aB (v:=Flat.val (xK:SV)) mW hs.hb rfl (aK lV (DL.flat (ld (hs.p1).eB)) (dD (aC (λ nH=>?_) (λ nH=>?_)))))
    ·refine aQ fG (hL.ext hs.aE) (by omega) S9 (λ _ ui=>bT (tk).at_ lq ui rfl rfl (λ _ Ag=>have hs:=hs.drew;aD bN (Ag) ?_))
     have hR:R=([],0,2,tk.at_):=by
      rw [if_neg iH,if_pos (by omega)] at hr3; exact (Option.some.inj hr3).symm
     rw [hR];exact ⟨⟨none,0,0⟩,rfl,(hs.gH (Φ:=λ w=>DL w (Flat.val (⟨none,0,0⟩:SV)) ([]:List dC)) λ w=>DL.nil w).fresh⟩
    ·refine aA rp (have hs:=hs.drew;aB (v:=Flat.val (xK:SV)) mW hs.hb rfl (aA oe (aB (v:=.int .i64 (x).to) bN hs.hb rfl ?_)));have hs:=hs.p1.dO (Ψ:=λ w=>DL w (Flat.val xK) x.l) (λ w h=>ld h)
     have hR:R=(x.l,x.to,0,0):=by
      rw [if_neg iH,if_neg (by omega)] at hr3; exact (Option.some.inj hr3).symm
     rw [hR];exact ⟨xK,rfl,hs.fresh⟩
end Go.Proofs.YtnjcingfdhjfkaaGreat

/-
  What the proof needs, part 6.
-/
import Derived.Test.YtnjcingfdhjfkaaGreatVsM5
set_option linter.all false
namespace Go.Proofs.YtnjcingfdhjfkaaGreat
open Go.Fw
theorem Oe (m:gT) (i:Nat) (t:fM):(tg m i t).length≤1+t.buf.length:=by
 have:=G7 t.buf
 unfold tg; split <;> simp <;> omega
theorem wD {m:gT} (h:rC m):∀ k,(kT m k).length≤k * 1001
 | 0=>by simp [kT]
 | k+1=>by
  have ih:=wD h k
  cases ht:m.l[k]? with
  | none=>
   have e:kT m (k+1)=kT m k:=by unfold kT; rw [List.range_succ,List.flatMap_append]; simp [ht]
   rw [e]; exact Nat.le_trans ih (Nat.mul_le_mul_right 1001 (Nat.le_succ k))
  | some t=>
   rw [Ak ht,List.length_append]
   have:=Oe m k t
   have:=(h.th t (List.mem_of_getElem? ht)).bl
   omega
def Am (m:gT) (i:Int):List Int:=if 0≤i then (match m.l[i.toNat]? with | some t=>t.aK | none=>[]) else []
theorem WY {m:gT} {i:Int} {t:fM} (h0:0≤i) (h:m.l[i.toNat]? = some t):Am m i=t.aK:=by unfold Am; rw [if_pos h0,h]
theorem Su {m:gT} {i:Int} (h:i<0∨m.l.length≤i):Am m i=[]:=by
 unfold Am; split
 ·rw [List.getElem?_eq_none (by omega)]
 ·rfl
def adg:List Int→Int→Int
 | [],n=>n
 | c::cs,n=>adg cs (qV (qV (n * 10000)+c))
def An (l:List Int) (k:Nat):Int:=adg (l.take k) 0
theorem G8:∀ (l:List Int) (c n:Int),adg (l++[c]) n=qV (qV (adg l n * 10000)+c)
 | [],_,_=>rfl
 | x::l,c,n=>G8 l c _
theorem Of {l:List Int} {k:Nat} {c:Int} (h:l[k]? = some c):An l (k+1)=qV (qV (An l k * 10000)+c):=by
 unfold An; rw [List.take_add_one,h]; exact G8 _ _ _
def js (p q:ei):Bool:=decide (q.kind=p.kind) && decide (q.t=p.t) && decide (q.i=p.i) && decide (p.cut.length=0)
def pk3 (s:SV):dT:=⟨3,0,0,s⟩
theorem adh {w:World} {ss:List SV} {cs:List (List Int)} (h:jO ss cs w):jO (ss.map pk3) (cs.map λ c=>(⟨3,0,0,c⟩:ei)) w:=by
 refine ⟨by simp [h.1],λ i t x a b=>?_⟩
 rw [List.getElem?_map] at a b
 cases hs:ss[i]? with
 | none=>rw [hs] at a; cases a
 | some s=>
  cases hc:cs[i]? with
  | none=>rw [hc] at b; cases b
  | some c=>
   rw [hs] at a; rw [hc] at b
   simp at a b; subst a b
   exact ⟨s,rfl,h.2 i s c hs hc⟩
theorem C16 (K:World→Prop) (p:Nat) (m:gT) (w:World) (hm:Has (eP K p m) w) (hw:K w) (vA:∀ w',Ext w w'→K w') (mq:rC m):CR 16 [(.pointer (some ⟨p,0,none⟩))] w (λ v w'=>lW (fj v (fc m)) w w'):=by
 obtain ⟨a,hr⟩:=eP.rd hm hw;have cm8:=hr.b.cell (o:=8) rfl;have cm0:=hr.b.cell (o:=0) rfl;have Yp:=hr.b.cell (o:=1) rfl;have cm3:=hr.b.cell (o:=3) rfl;have cm9:=hr.b.cell (o:=9) rfl;have Ck:=hr.b.cell (o:=10) rfl;have EX:=hr.b.cell (o:=11) rfl;have Bt:=hr.b.cell (o:=12) rfl;have FQ:=hr.b.cell (o:=13) rfl;have Al:=hr.b.cell (o:=14) rfl;have FR:=hr.b.cell (o:=15) rfl;have hs:=St.start w;refine agA _ _ _ ?_;unfold S16;refine aE (aA nR (cG bL (Al.ext hs.aF) (cS (aC (λ jW=>?_) (λ jW=>?_)))))
 ·have hpm:fc m=[]:=by unfold fc; rw [if_pos jW]
  rw [hpm];exact hs.xC.fresh
 ·refine aE (aA ke (cG qP (Bt.ext hs.aF) (aJ rY (hr.ll.ext hs.aF) ?_)));have hs:=hs.xC (α:=ei);refine ⟨λ mm o x w1=>∃ k:Nat,x = .int .i64 (k:Int)∧mm=a.ps.length - k∧k≤a.ps.length∧St w bD [fj o (kT m k)] w1,⟨_,0,rfl,rfl,Nat.zero_le _,hs⟩,?_⟩;rintro mm fV _ w1 ⟨k,rfl,rfl,hk,hs⟩ fy;refine aR (aC (λ fu=>?_) (λ fu=>?_))
  ·obtain ⟨afY,Bu⟩:=gx (a.ps) (i:=((k:Int)).toNat) (by omega);refine aQ rY hr.ll (by omega) Bu (λ _ z7=>?_);obtain ⟨t,ht⟩:∃ t,m.l[k]? = some t:=⟨_,List.getElem?_eq_getElem (by have:=hr.len; omega)⟩;have Cj:=List.mem_of_getElem? ht;have yN:=(mq.th t Cj).bl;have vf:=wD mq k;have Ql:=G7 t.buf;have KF:=hr.len;have MZ:=mq.tl;refine aD BJ (z7.ext hs.aF) ?_;refine ⟨λ o w'=>St w bD [fj o (kT m k++(if Ci m t=true then [(⟨1,(k:Int),0,[]⟩:ei)] else []))] w',?_,?_⟩
   ·refine aZ auq hs (C56 K p m afY.b t _ (hm.ext hs.aF) (vA _ hs.aF) (λ w2 e=>vA _ (Ext.trans hs.aF e)) mq ((hr.th k _ _ Bu ht).ext hs.aF) Cj) (λ w2 he hs=>aX (λ fR=>?_) (λ fR=>?_))
    ·refine pop (Gp _ _) (have hs:=hs.gE (Φ:=(λ w=>cA.dr w (⟨1,(k:Int),0,⟨none,0,0⟩⟩:dT) (⟨1,(k:Int),0,[]⟩:ei))) (λ w=>⟨_,rfl,DL.nil _⟩);eJ (s:=(⟨1,(k:Int),0,⟨none,0,0⟩⟩:dT)) (x:=(⟨1,(k:Int),0,[]⟩:ei)) hs mG (by decide) (λ ae3 w3 hs=>have hs:=hs.p1;dZ hs mG (by simp; omega) (by decide) (λ s_x30 w4 hs=>?_)));rw [fR,if_pos rfl];exact hs
    ·rw [fR,if_neg (by decide),List.append_nil];exact hs
   ·intro nh w5 hs jw;obtain ⟨bp,gl,rg,cn,_,pZ,hB,BR,hcn⟩:=eG.rd (hr.th k _ _ Bu ht);have ct0:=pZ.cell (o:=0) rfl;have ct5:=pZ.cell (o:=5) rfl;have ct6:=pZ.cell (o:=6) rfl;refine aE (aA nS (cG rW (ct0.ext hs.aF) (dB aur hs (C57 bp _ _ _ (hB.ext hs.aF) (by omega)) (λ x35 w6 bZ hs=>?_))));have hxx:=trivial;refine aJ ee (hs).fK ?_;have hs:=hs.p1.p1;refine ⟨λ mm o x w1=>∃ j:Nat,x = .int .i64 (j:Int)∧mm=(z9 t.buf).length - j∧j≤(z9 t.buf).length∧St w bD [bK x35 (z9 t.buf),fj o ((kT m k++(if Ci m t=true then [(⟨1,(k:Int),0,[]⟩:ei)] else []))++((z9 t.buf).take j).map λ i=>(⟨2,(k:Int),i,[]⟩:ei))] w1,⟨_,0,rfl,rfl,Nat.zero_le _,by simpa using hs⟩,?_⟩
    rintro mm MR _ w7 ⟨j,rfl,rfl,hj,hs⟩ oN;refine aR (aC (λ m7=>?_) (λ m7=>?_))
    ·obtain ⟨qo,pY⟩:=gx ((z9 t.buf)) (i:=((j:Int)).toNat) (by omega);refine dS hs ee (by omega) (by omega) (λ _ tY=>gj hs bL tY pY (pop (Kh _ _ _) (have hs:=hs.gE (Φ:=(λ w=>cA.dr w (⟨2,(k:Int),qo,⟨none,0,0⟩⟩:dT) (⟨2,(k:Int),qo,[]⟩:ei))) (λ w=>⟨_,rfl,DL.nil _⟩);eJ (s:=(⟨2,(k:Int),qo,⟨none,0,0⟩⟩:dT)) (x:=(⟨2,(k:Int),qo,[]⟩:ei)) hs mG (by decide) (λ Wd w8 hs=>have hs:=hs.p2;dZ hs mG (by simp only [List.length_append,List.length_map,List.length_take,List.length_singleton]; split <;> simp <;> omega) (by decide) (λ ap7 w9 hs=>aO (by omega) ?_)))))
     have hs:=hs.p1;refine ⟨_,by omega,j+1,rfl,rfl,by omega,?_⟩;rw [List.append_assoc,iP (k:=j) pY] at hs;exact hs
    ·refine aO (by omega) ?_;have hs:=(hs).drop;refine ⟨_,by omega,k+1,rfl,rfl,by omega,?_⟩;rw [Ak ht];unfold tg;rw [List.take_of_length_le (by omega),List.append_assoc] at hs;exact hs
  ·have hpm:fc m=kT m a.ps.length:=by unfold fc; rw [if_neg jW,hr.len]
   rw [hpm,show a.ps.length=k from by omega];exact hs.fresh
theorem C31 (K:World→Prop) (p:Nat) (m:gT) (w:World) (hm:Has (eP K p m) w) (hw:K w) (vA:∀ w',Ext w w'→K w') (mq:rC m) (hb:MB m.mem 1000000) (hC:(fJ (IQ m.mem)).length≤1000000000):CR 31 [(.pointer (some ⟨p,0,none⟩))] w (λ v w'=>lW (fj v (rB m)) w w'):=by
 obtain ⟨a,hr⟩:=eP.rd hm hw;have cm8:=hr.b.cell (o:=8) rfl;have cm0:=hr.b.cell (o:=0) rfl;have Yp:=hr.b.cell (o:=1) rfl;have cm3:=hr.b.cell (o:=3) rfl;have cm9:=hr.b.cell (o:=9) rfl;have Ck:=hr.b.cell (o:=10) rfl;have EX:=hr.b.cell (o:=11) rfl;have Bt:=hr.b.cell (o:=12) rfl;have FQ:=hr.b.cell (o:=13) rfl;have Al:=hr.b.cell (o:=14) rfl;have FR:=hr.b.cell (o:=15) rfl;have hs:=St.start w;refine agM _ _ _ ?_;unfold S31;refine aE (aA nR (cG bL (Al.ext hs.aF) (cS (aC (λ fO=>?_) (λ fO=>?_)))))
 ·have hpm:rB m=[]:=by unfold rB; rw [if_pos fO]
  rw [hpm];exact hs.xC.fresh
 ·refine aE (aA jD (cG rX (Ck.ext hs.aF) (ey auE (C82 a.q m.mem _ (hr.mem.ext hs.aF) mq.mem hb hC) ?_)));rintro x15 w1 bZ;have hs:=hs.made bZ;obtain ⟨ss,hs⟩:=hs.Kw;have hsl:=hs.ahQ;have hdl:=QI (um m.mem) (fJ (IQ m.mem));have Mz:(GZ m.mem).length=(My (um m.mem) (fJ (IQ m.mem))).1.length:=rfl;refine aJ xP (hs).fK ?_;have hs:=(((hs.fX (α:=dT)).p2).p2).p2;refine ⟨λ mm o x w1=>∃ k:Nat,x = .int .i64 (k:Int)∧mm=ss.length - k∧k≤ss.length∧St w bD [bK o ((ss.take k).map pk3),bK x15 ss,eX (jO ss (GZ m.mem))] w1,⟨_,0,rfl,rfl,Nat.zero_le _,hs⟩,?_⟩;rintro mm fV _ w2 ⟨k,rfl,rfl,hk,hs⟩ fy
  refine aR (aC (λ gd=>?_) (λ gd=>?_))
  ·obtain ⟨iX,fF⟩:=gx (ss) (i:=((k:Int)).toNat) (by omega);refine dS hs.p1 xP (by omega) (by omega) (λ _ jI=>gj hs.p1 en jI fF (pop (v:=Flat.val (pk3 iX)) (Gq _ _ _ _) (bW ([pk3 iX]) hs mG rfl rfl (eF rfl) (λ s_x24 w3 hs=>?_))));have wu:=(hs).fK;refine cN hs.p1 mG wu (by simp; omega) (by decide) (λ aps w4 hs=>have hs:=hs.p1.drop;aO (by omega) ?_);have hs:=hs.p2.p2.p2;exact ⟨_,by omega,k+1,rfl,rfl,by omega,by rw [← iP (k:=k) fF]; exact hs⟩
  ·have hs:=(hs.p1.drop).p1;have hpm:rB m=(GZ m.mem).map λ c=>(⟨3,0,0,c⟩:ei):=by unfold rB; rw [if_neg fO]
   rw [List.take_of_length_le (by omega)] at hs;rw [hpm];exact (St.DC (hs.dN (λ w h=>adh h)).p1).fresh
theorem C59 (cv:Value) (cut:List Int) (w:World) (hC:eI (λ _=>True) w cv cut) (ajI:cut.length≤1000000):CR 59 [cv] w (λ v w'=>v = .int .i64 (An cut cut.length)∧Ext w w'):=by
 have hs:=St.start w;refine aha _ _ _ ?_;unfold S59;refine aJ ee (hC.ext hs.aF) ?_;refine ⟨λ mm n x w1=>∃ k:Nat,n = .int .i64 (An cut k)∧x = .int .i64 (k:Int)∧mm=cut.length - k∧k≤cut.length∧St w bD [] w1,⟨_,0,rfl,rfl,rfl,Nat.zero_le _,hs⟩,?_⟩;rintro mm _ _ w1 ⟨k,rfl,rfl,rfl,hk,hs⟩ fy;refine aR (aC (λ gu=>?_) (λ gu=>?_))
 ·obtain ⟨e_x10,WZ⟩:=gx (cut) (i:=((k:Int)).toNat) (by omega);refine aQ ee hC (by omega) WZ (λ _ qn=>aD bL (qn.ext hs.aF) (Kp (Ko (aO (by omega) ?_))));exact ⟨_,by omega,k+1,by rw [Of (k:=k) WZ],rfl,rfl,by omega,hs⟩
 ·exact ⟨by rw [show cut.length=k from by omega],hs.aF⟩
theorem C60 (q x:ei) (qv:dT) (b:Nat) (xv:dT) (w:World) (hq:cA.dr w qv q) (hx:At (λ _=>True) w (.pointer (some ⟨b,0,none⟩)) xv) (hxd:cA.dr w xv x):CR 60 [Flat.val qv,(.pointer (some ⟨b,0,none⟩))] w (λ v w'=>v = .bool (js x q)∧Ext w w'):=by
 obtain ⟨QJ,rfl,adi⟩:=hq;obtain ⟨adj,rfl,adk⟩:=hxd;have hs:=St.start w;refine ahb _ _ _ _ ?_;unfold S60;refine dE hs (λ ax5 w1 hs=>?_);refine ⟨λ jv w'=>jv = .bool (js x q)∧St w bD [cD ax5 (Flat.enc (⟨(q).kind,(q).t,(q).i,QJ⟩:dT))] w',?_,?_⟩
 ·refine aA pa (aB (v:=.int .i64 ((q).kind)) bL hs.hb rfl (bP (x).kind pa hx rfl rfl (λ _ ax6=>aD bL (ax6.ext hs.aF) (aH (aC (λ gn=>?_) (λ gn=>?_))))))
  ·refine aA jC (aB (v:=.int .i64 ((q).t)) bL hs.hb rfl (bP (x).t jC hx rfl rfl (λ _ aqP=>aD bL (aqP.ext hs.aF) (aH (aC (λ gP=>?_) (λ gP=>?_))))))
   ·refine aA wV (aB (v:=.int .i64 ((q).i)) bL hs.hb rfl (bP (x).i wV hx rfl rfl (λ _ jI=>aD bL (jI.ext hs.aF) (aH (aC (λ gr=>?_) (λ gr=>?_))))))
    ·refine bP adj nP hx rfl rfl (λ _ vY=>aD en (vY.ext hs.aF) ?_);have aqQ:=DL.flat (adk);refine aJ ee (aqQ.ext hs.aF) (aH ?_);exact ⟨vb (by unfold js; first | (simp_all; done) | grind),hs⟩
    ·exact ⟨vb (by unfold js; first | (simp_all; done) | grind),hs⟩
   ·exact ⟨vb (by unfold js; first | (simp_all; done) | grind),hs⟩
  ·exact ⟨vb (by unfold js; first | (simp_all; done) | grind),hs⟩
 ·rintro _ w2 ⟨rfl,hs⟩ fy;exact ⟨rfl,hs.drop.aF⟩
theorem C126 (sv fv:Value) (xs:List ei) (φ:ei→Prop) (g:ei→Bool) (w:World) (hL:DL w sv xs) (hf:n7 PG w fv φ g) (hφ:∀ x∈xs,φ x) (hn:xs.length≤1073741824):CR 126 [sv,fv] w (λ v w'=>v = .int .i64 (uN g xs)∧Ext w w'):=by
 obtain ⟨g0,first,cap,rfl,vf,lQ⟩:=hf;have hs:=St.start w;refine Ze _ _ _ _ ?_;unfold S126;obtain ⟨aqR,afZ,af0⟩:=(hL).open;have hn127:=af0.1;refine aJ mG (afZ.ext hs.aF) ?_;refine ⟨λ m x w1=>∃ k:Nat,x = .int .i64 (k:Int)∧m=xs.length - k∧k≤xs.length∧(∀ y∈xs.take k,g y=false)∧St w bD [] w1,⟨_,0,rfl,rfl,Nat.zero_le _,by simp,hs⟩,?_⟩;rintro m _ w1 ⟨k,rfl,rfl,hk,fS,hs⟩ fy;refine aR (aC (λ gu=>?_) (λ gu=>?_))
 ·obtain ⟨jj,dD⟩:=gx aqR (i:=((k:Int)).toNat) (by omega);obtain ⟨BU,jR⟩:=gx (xs) (i:=((k:Int)).toNat) (by omega);obtain ⟨Sv,rfl,Sw⟩:=af0.2 _ _ _ dD jR;refine aQ mG afZ (by omega) dD (λ _ iN=>aD mQ (iN.ext hs.aF) (ga vf (lQ _ BU w1 hs.aF ⟨Sv,rfl,(Sw.ext hs.aF)⟩ (hφ _ (List.mem_of_getElem? jR))) ?_));rintro _ w2 ⟨rfl,he⟩;have hs:=hs.ext he;refine aX (λ eA=>?_) (λ eA=>?_)
  ·exact ⟨congrArg (Value.int .i64) (pd fS jR eA).symm,hs.aF⟩
  ·refine aO (by omega) ?_;exact ⟨_,by omega,k+1,rfl,rfl,by omega,eC fS jR eA,hs⟩
 ·exact ⟨congrArg (Value.int .i64) (ko (by rw [List.take_of_length_le (by omega)] at fS; exact fS)).symm,hs.aF⟩
theorem C61 (sv fv:Value) (xs:List ei) (φ:ei→Prop) (g:ei→Bool) (w:World) (hL:DL w sv xs) (hf:n7 PG w fv φ g) (hφ:∀ x∈xs,φ x) (hn:xs.length≤1073741824):CR 61 [sv,fv] w (λ v w'=>v = .bool (xs.any g)∧Ext w w'):=by
 have hs:=St.start w;refine ahc _ _ _ _ ?_;unfold S61;refine aZ amI hs (C126 _ _ _ _ _ _ (hL.ext hs.aF) (hf.ext hs.aF) hφ (by omega)) (λ w1 he hs=>dG ?_);exact ⟨vb (n8 _ _),hs.aF⟩
theorem C22 (K:World→Prop) (p:Nat) (m:gT) (w:World) (hm:Has (eP K p m) w) (hw:K w) (vA:∀ w',Ext w w'→K w') (mq:rC m):CR 22 [(.pointer (some ⟨p,0,none⟩))] w (λ v w'=>lW (bK v m.mem.l) w w'):=by
 obtain ⟨a,hr⟩:=eP.rd hm hw;have cm8:=hr.b.cell (o:=8) rfl;have cm0:=hr.b.cell (o:=0) rfl;have Yp:=hr.b.cell (o:=1) rfl;have cm3:=hr.b.cell (o:=3) rfl;have cm9:=hr.b.cell (o:=9) rfl;have Ck:=hr.b.cell (o:=10) rfl;have EX:=hr.b.cell (o:=11) rfl;have Bt:=hr.b.cell (o:=12) rfl;have FQ:=hr.b.cell (o:=13) rfl;have Al:=hr.b.cell (o:=14) rfl;have FR:=hr.b.cell (o:=15) rfl;have hs:=St.start w;refine agG _ _ _ ?_;unfold S22;refine aE (aA jD (cG rX (Ck.ext hs.aF) (dB ahs hs (C72 a.q m.mem _ (hr.mem.ext hs.aF) mq.mem) (λ x7 w1 bZ hs=>?_))));exact hs.fresh
theorem C23 (K:World→Prop) (p:Nat) (m:gT) (w:World) (hm:Has (eP K p m) w) (hw:K w) (vA:∀ w',Ext w w'→K w') (mq:rC m):CR 23 [(.pointer (some ⟨p,0,none⟩))] w (λ v w'=>lW (bK v m.mem.kept) w w'):=by
 obtain ⟨a,hr⟩:=eP.rd hm hw;have cm8:=hr.b.cell (o:=8) rfl;have cm0:=hr.b.cell (o:=0) rfl;have Yp:=hr.b.cell (o:=1) rfl;have cm3:=hr.b.cell (o:=3) rfl;have cm9:=hr.b.cell (o:=9) rfl;have Ck:=hr.b.cell (o:=10) rfl;have EX:=hr.b.cell (o:=11) rfl;have Bt:=hr.b.cell (o:=12) rfl;have FQ:=hr.b.cell (o:=13) rfl;have Al:=hr.b.cell (o:=14) rfl;have FR:=hr.b.cell (o:=15) rfl;have hs:=St.start w;refine agH _ _ _ ?_;unfold S23;refine aE (aA jD (cG rX (Ck.ext hs.aF) (dB TU hs (C73 a.q m.mem _ (hr.mem.ext hs.aF) mq.mem) (λ x7 w1 bZ hs=>?_))));exact hs.fresh
theorem C25 (K:World→Prop) (p:Nat) (m:gT) (i:Int) (w:World) (hm:Has (eP K p m) w) (hw:K w) (vA:∀ w',Ext w w'→K w') (mq:rC m) (Yq:∀ t∈m.l,t.aK.length≤1000000):CR 25 [(.pointer (some ⟨p,0,none⟩)),.int .i64 i] w (λ v w'=>lW (bK v (Am m i)) w w'):=by
 obtain ⟨a,hr⟩:=eP.rd hm hw;have cm8:=hr.b.cell (o:=8) rfl;have cm0:=hr.b.cell (o:=0) rfl;have Yp:=hr.b.cell (o:=1) rfl;have cm3:=hr.b.cell (o:=3) rfl;have cm9:=hr.b.cell (o:=9) rfl;have Ck:=hr.b.cell (o:=10) rfl;have EX:=hr.b.cell (o:=11) rfl;have Bt:=hr.b.cell (o:=12) rfl;have FQ:=hr.b.cell (o:=13) rfl;have Al:=hr.b.cell (o:=14) rfl;have FR:=hr.b.cell (o:=15) rfl;have hs:=St.start w;refine agJ _ _ _ _ ?_;unfold S25;refine ⟨λ jv w'=>jv = .bool (decide (i<0∨a.ps.length≤i))∧w=w',?_,?_⟩
 ·refine aR (aC (λ pD=>?_) (λ pD=>?_))
  ·exact ⟨RB (by omega),rfl⟩
  ·refine aE (aA ke (cG qP (Bt.ext hs.aF) (aJ rY (hr.ll.ext hs.aF) (dG ?_))));exact ⟨xu (by omega),rfl⟩
 ·rintro _ w1 ⟨rfl,hw⟩ fy;subst hw;refine aC (λ jG=>?_) (λ jG=>?_)
  ·rw [Su (by have:=hr.len; omega)];exact (hs.fX (α:=Int)).fresh
  ·refine aE (aA ke (cG qP (Bt.ext hs.aF) ?_));obtain ⟨afY,Bu⟩:=gx (a.ps) (i:=(i).toNat) (by omega);refine aQ rY hr.ll (by omega) Bu (λ _ z7=>aD BJ (z7.ext hs.aF) ?_);obtain ⟨t,ht⟩:∃ t,m.l[i.toNat]? = some t:=⟨_,List.getElem?_eq_getElem (by have:=hr.len; omega)⟩;have yN:=(mq.th t (List.mem_of_getElem? ht)).bl;have ax7:=(mq.th t (List.mem_of_getElem? ht)).rg;obtain ⟨bp,gl,rg,cn,_,pZ,hB,BR,hcn⟩:=eG.rd (hr.th i.toNat _ _ Bu ht);have ct0:=pZ.cell (o:=0) rfl;have ct5:=pZ.cell (o:=5) rfl;have ct6:=pZ.cell (o:=6) rfl;refine aE (aA px (cG en (ct5.ext hs.aF) (dB zb hs (C70 _ _ _ (BR.ext hs.aF) (Yq t (List.mem_of_getElem? ht))) (λ x26 w2 bZ hs=>?_))))
   rw [WY (by omega) ht];exact hs.fresh
def pM (m:Mem) (c:Int):Int:=if N7 m c=true then m.l.getD c.toNat 0 else 0
def G9 (m:gT) (t:fM) (x:aW):Int:=if (rq t.buf x.b).isSome=true then (rq t.buf x.b).getD 0 else pM m.mem x.b
def loadT (m:gT) (t:fM) (x:aW):fM:={t with aK:=t.aK.set x.a.toNat (G9 m t x)}
def LH (m:gT) (t:fM) (x:aW):dA:=⟨if (rq t.buf x.b).isSome=true then 2 else 1,0,x.b,G9 m t x,0⟩
def uo (m:gT) (t:fM) (x:aW):bJ:=if x.kind=3 then ⟨3,m.u.lines.getD x.b.toNat 0,x.b,t.e⟩ else ⟨x.kind,x.b,0,0⟩
def vq (m:gT) (t:fM) (x:aW):fM:={t with buf:=wz m.room t.buf (uo m t x)}
def yF (k:Int):Int:=if k=3 then 3 else if k=5 then 4 else if k=6 then 5 else if k=7 then 6 else 0
def BZ (m:gT) (t:fM) (x:aW):dA:=⟨yF x.kind,0,x.b,(uo m t x).n,0⟩
def casT (m:gT) (t:fM) (x:aW):fM:={t with aK:=t.aK.set x.a.toNat (pM m.mem x.b)}
def Bv (m:gT) (t:fM) (x:aW):gT:=if pM m.mem x.b=t.e then {m with mem:=iH m.mem x.b t.f} else m
def Og (m:gT) (t:fM) (x:aW):dA:=if pM m.mem x.b=t.e then ⟨8,0,x.b,pM m.mem x.b,t.f⟩ else ⟨9,0,x.b,pM m.mem x.b,0⟩
def ya (m:gT) (i:Int) (x:aW):gT:={m with locks:=m.locks.set x.b.toNat i}
def uq (m:gT) (i:Int) (x:aW):gT:=if m.locks.getD x.b.toNat 0=i then {m with locks:=m.locks.set x.b.toNat (-1)} else {m with fault:=3,mJ:=i}
def EY (m:gT) (i:Int) (x:aW):dA:=if m.locks.getD x.b.toNat 0=i then ⟨11,0,x.b,0,0⟩ else ⟨16,0,3,0,0⟩
def dX (m:gT) (t:fM) (i:Int) (x:aW):gT × fM × dA:=
 if x.kind=2 then (m,loadT m t x,LH m t x)
 else if x.kind=4 then (Bv m t x,casT m t x,Og m t x)
 else if x.kind=8 then (m,t,⟨7,0,0,0,0⟩)
 else if x.kind=9 then (ya m i x,t,⟨10,0,x.b,0,0⟩)
 else if x.kind=10 then (uq m i x,t,EY m i x)
 else (m,vq m t x,BZ m t x)
theorem af1 (p:Nat) (m:Mem) (c:Int) (w:World) (hm:u9 w p m) (hk:xj m):CR 195 [.pointer (some ⟨p,0,none⟩),.int .i64 c] w (λ v w'=>v = .tuple #[.int .i64 (pM m c),.int .i64 (if N7 m c=true then 0 else 1)]∧Ext w w'):=C195 p m c w hm hk
theorem Bw (m:Mem) (c n:Int):(iH m c n).of=m.of:=by unfold iH; split <;> rfl
theorem ti (m:Mem) (c n:Int):(iH m c n).dC=m.dC:=by unfold iH; split <;> rfl
theorem QK (m:Mem) (c:Int):(vz m c).of=m.of:=by unfold vz; split <;> rfl
theorem B0 (m:Mem) (c:Int):(vz m c).dC=m.dC:=by unfold vz; split <;> rfl
theorem ui.write {ov fv:Value} {m:Mem} {w:World} {c n:Int} (h:ui ov fv m w):ui ov fv (iH m c n) w:=by unfold ui; rw [Bw,ti]; exact h
theorem ui.out {ov fv:Value} {m:Mem} {w:World} {c:Int} (h:ui ov fv m w):ui ov fv (vz m c) w:=by unfold ui; rw [QK,B0]; exact h
theorem C130 (K:World→Prop) (p:Nat) (m:gT) (n:Nat) (tp:Ptr) (t:fM) (i:Int) (x:aW) (ge gf:SV) (F:Nat→Prop) (w:World) (hF:(sep (eG K tp.b m.room t) (ky K p m n tp)).p w F) (hK:∀ w',iy F w w'→K w') (yN:t.buf.length≤1000) (Jr:xj m.mem) (tn:MB m.mem 1000000) (hxa:0≤x.a∧x.a<t.aK.length):CR 130 [(.pointer (some ⟨p,0,none⟩)),(.pointer (some ⟨tp.b,0,none⟩)),.int .i64 i,Flat.val (⟨x.kind,x.a,x.b,ge,gf,x.to⟩:bU)] w (λ v w'=>v=Flat.val (LH m t x)∧qk F (sep (eG K tp.b m.room (loadT m t x)) (ky K p (m) n tp)) w w'):=by
 have hs:=(St.begin hF).split;obtain ⟨bp,gl,rg,cn,qF,hs⟩:=eG.open hs;obtain ⟨a,hx,hs⟩:=ky.open hs.p4;refine Zi _ _ _ _ _ _ ?_;unfold S130;refine dE (x:=(⟨x.kind,x.a,x.b,ge,gf,x.to⟩:bU)) hs (λ A8 w1 hs=>aN hs lB (λ A6 w2 hs=>aE (aA nS (have hs:=hs.drew;aB rW hs.p7.hb rfl (aA eV (aB (v:=.int .i64 x.b) bL hs.p1.hb rfl (aZ anc hs (C194 bp x.b m.room t.buf _ (QA hs.p8) (by omega)) (λ w3 he hs=>bE rfl (bE rfl ?_)))))))));refine ⟨_,?_,λ _ _ _ h=>h⟩;refine bY (aX (λ iO=>?_) (λ iO=>?_))
 ·refine aE (aA jD (have hs:=hs.drew;aB rX hs.p2.hb rfl (aA eV (aB (v:=.int .i64 x.b) bL hs.p1.hb rfl (aZ aeu hs (af1 a.q m.mem x.b _ (IM hs.p3 (hx.1.mem _ (hK _ hs.aF))) Jr) (λ w4 he hs=>bE rfl (bE rfl ?_)))))));intro fy;refine aE (aA px (have hs:=hs.drew;aB en hs.p7.hb rfl (aA kh (aB (v:=.int .i64 x.a) bL hs.p1.hb rfl ?_))));obtain ⟨afz,IK⟩:=gx (t.aK) (i:=(x.a).toNat) (by omega);refine dS hs.p9 ee (by omega) (by omega) (λ aqS DV=>lF _ hs.p9 bL DV (by omega) (λ w6 hs=>aA eV (aB (v:=.int .i64 x.b) bL hs.p2.hb rfl (pop (pC _ _ _) (aI (x:=(⟨1,0,x.b,(pM m.mem x.b),0⟩:dA)) hs.p1 eY rfl rfl (λ w7 hs=>aD eY hs.At ?_))))))
  have hn:G9 m t x=(pM m.mem x.b):=by unfold G9; rw [if_neg (by simpa using iO)]
  have hk:(if (rq t.buf x.b).isSome=true then (2:Int) else 1)=1:=by rw [if_neg (by simpa using iO)]
  have hs:=eG.shut (room:=m.room) (t:=(⟨t.code,t.at_,((t.aK).set (x.a).toNat (pM m.mem x.b)),t.counts,t.fault,t.e,t.f,t.buf⟩:fM)) qF hs.rR.p2.rR.rR;have hs:=((ky.shut (m:=m) (⟨⟨hx.1.ln,hx.1.cl,hx.1.rc,hx.1.mem⟩,hx.2⟩) hs.p7.p7.p7.p7.p7).p2).drop;have hs:=(hs.p2.drop).p1;refine ⟨?_,?_⟩
  ·unfold LH; rw [hn,hk]
  ·rw [show loadT m t x=(⟨t.code,t.at_,((t.aK).set (x.a).toNat (pM m.mem x.b)),t.counts,t.fault,t.e,t.f,t.buf⟩:fM) from by unfold loadT; rw [hn]]; exact (St.join hs).mut
 ·intro fy;refine aE (aA px (have hs:=hs.drew;aB en hs.p7.hb rfl (aA kh (aB (v:=.int .i64 x.a) bL hs.p1.hb rfl ?_))));obtain ⟨afz,IK⟩:=gx (t.aK) (i:=(x.a).toNat) (by omega);refine dS hs.p9 ee (by omega) (by omega) (λ aqS DV=>lF _ hs.p9 bL DV (by omega) (λ w6 hs=>aA eV (aB (v:=.int .i64 x.b) bL hs.p2.hb rfl (pop (pC _ _ _) (aI (x:=(⟨2,0,x.b,((rq t.buf x.b).getD 0),0⟩:dA)) hs.p1 eY rfl rfl (λ w7 hs=>aD eY hs.At ?_))))));have hn:G9 m t x=((rq t.buf x.b).getD 0):=by unfold G9; rw [if_pos (by simpa using iO)]
  have hk:(if (rq t.buf x.b).isSome=true then (2:Int) else 1)=2:=by rw [if_pos (by simpa using iO)]
  have hs:=eG.shut (room:=m.room) (t:=(⟨t.code,t.at_,((t.aK).set (x.a).toNat ((rq t.buf x.b).getD 0)),t.counts,t.fault,t.e,t.f,t.buf⟩:fM)) qF hs.rR.p2.rR.rR;have hs:=((ky.shut (m:=m) (⟨⟨hx.1.ln,hx.1.cl,hx.1.rc,hx.1.mem⟩,hx.2⟩) hs.p7.p7.p7.p7.p7).p2).drop;have hs:=(hs.p2.drop).p1;refine ⟨?_,?_⟩
  ·unfold LH; rw [hn,hk]
  ·rw [show loadT m t x=(⟨t.code,t.at_,((t.aK).set (x.a).toNat ((rq t.buf x.b).getD 0)),t.counts,t.fault,t.e,t.f,t.buf⟩:fM) from by unfold loadT; rw [hn]]; exact (St.join hs).mut
theorem C132 (K:World→Prop) (p:Nat) (m:gT) (n:Nat) (tp:Ptr) (t:fM) (i:Int) (x:aW) (ge gf:SV) (F:Nat→Prop) (w:World) (hF:(sep (eG K tp.b m.room t) (ky K p m n tp)).p w F) (hK:∀ w',iy F w w'→K w') (yN:t.buf.length≤1000) (Jr:xj m.mem) (tn:MB m.mem 1000000) (hxa:0≤x.a∧x.a<t.aK.length):CR 132 [(.pointer (some ⟨p,0,none⟩)),(.pointer (some ⟨tp.b,0,none⟩)),.int .i64 i,Flat.val (⟨x.kind,x.a,x.b,ge,gf,x.to⟩:bU)] w (λ v w'=>v=Flat.val (Og m t x)∧qk F (sep (eG K tp.b m.room (casT m t x)) (ky K p (Bv m t x) n tp)) w w'):=by
 have hs:=(St.begin hF).split;obtain ⟨bp,gl,rg,cn,qF,hs⟩:=eG.open hs;obtain ⟨a,hx,hs⟩:=ky.open hs.p4;refine Zk _ _ _ _ _ _ ?_;unfold S132;refine dE (x:=(⟨x.kind,x.a,x.b,ge,gf,x.to⟩:bU)) hs (λ A8 w1 hs=>aN hs lB (λ A6 w2 hs=>aE (aA jD (have hs:=hs.drew;aB rX hs.p2.hb rfl (aA eV (aB (v:=.int .i64 x.b) bL hs.p1.hb rfl (aZ aeu hs (af1 a.q m.mem x.b _ (IM hs.p3 (hx.1.mem _ (hK _ hs.aF))) Jr) (λ w3 he hs=>bE rfl (bE rfl (aE (aA px (have hs:=hs.drew;aB en hs.p7.hb rfl ?_))))))))))));refine aA kh (aB (v:=.int .i64 x.a) bL hs.p1.hb rfl ?_)
 obtain ⟨xW,yr⟩:=gx (t.aK) (i:=(x.a).toNat) (by omega);refine dS hs.p9 ee (by omega) (by omega) (λ _ wg=>lF _ hs.p9 bL wg (by omega) (λ w4 hs=>aE (aA tI (aB bL hs.p8.hb rfl (cS (aC (λ iC=>?_) (λ iC=>?_)))))))
 ·refine aA eV (aB (v:=.int .i64 x.b) bL hs.p2.hb rfl (pop (pC _ _ _) (aI (x:=(⟨9,0,x.b,(pM m.mem x.b),0⟩:dA)) hs.p1 eY rfl rfl (λ w5 hs=>aD eY hs.At ?_))));have Mz:Bv m t x=m:=by unfold Bv; rw [if_neg iC]
  have hce:Og m t x=⟨9,0,x.b,pM m.mem x.b,0⟩:=by unfold Og; rw [if_neg iC]
  have hs:=eG.shut (room:=m.room) (t:=(⟨t.code,t.at_,((t.aK).set (x.a).toNat (pM m.mem x.b)),t.counts,t.fault,t.e,t.f,t.buf⟩:fM)) qF hs.rR.p2.rR.rR;have hs:=ky.shut (m:=m) (⟨⟨hx.1.ln,hx.1.cl,hx.1.rc,λ w hw=>by first | exact hx.1.mem w hw | exact (hx.1.mem w hw).write⟩,hx.2⟩) hs.p7.p7.p7.p7.p7;have hs:=((hs.p2.drop.p2).drop).p1;refine ⟨?_,?_⟩
  ·rw [hce]; try rfl
  ·rw [Mz]; exact (St.join hs).mut
 ·refine aE (aA jD (have hs:=hs.drew;aB rX hs.p3.hb rfl (aA eV (aB (v:=.int .i64 x.b) bL hs.p2.hb rfl (aE (aA Dn (aB bL hs.p8.hb rfl (bG TZ hs.p4 (H':=λ _=>fU a.q a.ov a.fv (iH m.mem x.b t.f)) (Φ:=λ _ _=>True) (λ F2 eO ew=>?_) ?_))))))))
  ·exact (C128 a.q a.ov a.fv m.mem F2 x.b _ _ eO (λ w' hc=>hx.1.mem _ (hK w' (ew w' hc).aF)) Jr tn).mono λ _ _ r=>r.mono λ _ _ h=>⟨trivial,h.2⟩
  rintro _ w6 _ hs;refine aA eV (have hs:=hs.drew;aB (v:=.int .i64 x.b) bL hs.p3.hb rfl (aE (aA Dn (aB bL hs.p8.hb rfl (pop (FB _ _ _ _) (aI (x:=(⟨8,0,x.b,(pM m.mem x.b),t.f⟩:dA)) hs.p2 eY rfl rfl (λ w7 hs=>aD eY hs.At ?_)))))));have Mz:Bv m t x={m with mem:=iH m.mem x.b t.f}:=by unfold Bv; rw [if_pos (by simpa using iC)]
  have hce:Og m t x=⟨8,0,x.b,pM m.mem x.b,t.f⟩:=by unfold Og; rw [if_pos (by simpa using iC)]
  have hs:=eG.shut (room:=m.room) (t:=(⟨t.code,t.at_,((t.aK).set (x.a).toNat (pM m.mem x.b)),t.counts,t.fault,t.e,t.f,t.buf⟩:fM)) qF hs.rR.p3.rR.rR;have hs:=ky.shut (m:={m with mem:=iH m.mem x.b t.f}) (⟨⟨hx.1.ln,hx.1.cl,hx.1.rc,λ w hw=>by first | exact hx.1.mem w hw | exact (hx.1.mem w hw).write⟩,hx.2⟩) hs.p7.p7.p7.p5.p7;have hs:=((hs.p2.drop.p2).drop).p1;refine ⟨?_,?_⟩
  ·rw [hce]; try rfl
  ·rw [Mz]; exact (St.join hs).mut
theorem C133 (K:World→Prop) (p:Nat) (m:gT) (n:Nat) (tp:Ptr) (t:fM) (i:Int) (x:aW) (ge gf:SV) (F:Nat→Prop) (w:World) (hF:(sep (eG K tp.b m.room t) (ky K p m n tp)).p w F) (hK:∀ w',iy F w w'→K w') (yN:t.buf.length≤1000) (Jr:xj m.mem) (tn:MB m.mem 1000000):CR 133 [(.pointer (some ⟨p,0,none⟩)),(.pointer (some ⟨tp.b,0,none⟩)),.int .i64 i,Flat.val (⟨x.kind,x.a,x.b,ge,gf,x.to⟩:bU)] w (λ v w'=>v=Flat.val ((⟨7,0,0,0,0⟩:dA))∧qk F (sep (eG K tp.b m.room (t)) (ky K p (m) n tp)) w w'):=by
 have hs:=(St.begin hF).split;obtain ⟨bp,gl,rg,cn,qF,hs⟩:=eG.open hs;obtain ⟨a,hx,hs⟩:=ky.open hs.p4;refine Zl _ _ _ _ _ _ ?_;unfold S133;refine dE (x:=(⟨x.kind,x.a,x.b,ge,gf,x.to⟩:bU)) hs (λ A8 w1 hs=>aN hs lB (λ A6 w2 hs=>pop (abl _) (aI (x:=(⟨7,0,0,0,0⟩:dA)) hs eY rfl rfl (λ w3 hs=>aD eY hs.At ?_))));have hs:=eG.shut (room:=m.room) (t:=(⟨t.code,t.at_,t.aK,t.counts,t.fault,t.e,t.f,t.buf⟩:fM)) qF hs.rR.rR.rR.rR;have hs:=((ky.shut (m:=m) (⟨⟨hx.1.ln,hx.1.cl,hx.1.rc,hx.1.mem⟩,hx.2⟩) hs.p7.p7.p7.p7.p7).p2).drop;have hs:=(hs.p2.drop).p1;refine ⟨?_,?_⟩
 ·rfl
 ·skip; exact (St.join hs).mut
theorem C134 (K:World→Prop) (p:Nat) (m:gT) (n:Nat) (tp:Ptr) (t:fM) (i:Int) (x:aW) (ge gf:SV) (F:Nat→Prop) (w:World) (hF:(sep (eG K tp.b m.room t) (ky K p m n tp)).p w F) (hK:∀ w',iy F w w'→K w') (yN:t.buf.length≤1000) (Jr:xj m.mem) (tn:MB m.mem 1000000) (hxb:0≤x.b∧x.b<m.locks.length):CR 134 [(.pointer (some ⟨p,0,none⟩)),(.pointer (some ⟨tp.b,0,none⟩)),.int .i64 i,Flat.val (⟨x.kind,x.a,x.b,ge,gf,x.to⟩:bU)] w (λ v w'=>v=Flat.val ((⟨10,0,x.b,0,0⟩:dA))∧qk F (sep (eG K tp.b m.room (t)) (ky K p (ya m i x) n tp)) w w'):=by
 have hs:=(St.begin hF).split;obtain ⟨bp,gl,rg,cn,qF,hs⟩:=eG.open hs;obtain ⟨a,hx,hs⟩:=ky.open hs.p4;refine Zm _ _ _ _ _ _ ?_;unfold S134;refine dE (x:=(⟨x.kind,x.a,x.b,ge,gf,x.to⟩:bU)) hs (λ A8 w1 hs=>aN hs lB (λ A6 w2 hs=>aE (aA nQ (have hs:=hs.drew;aB en hs.p2.hb rfl (aA eV (aB (v:=.int .i64 x.b) bL hs.p1.hb rfl ?_))))));obtain ⟨GH,kM⟩:=gx (m.locks) (i:=(x.b).toNat) (by omega);refine dS hs.p4 ee (by omega) (by omega) (λ _ tT=>lF _ hs.p4 bL tT (by omega) (λ w3 hs=>aA eV (aB (v:=.int .i64 x.b) bL hs.p2.hb rfl (pop (A1 _ _) (aI (x:=(⟨10,0,x.b,0,0⟩:dA)) hs.p1 eY rfl rfl (λ w4 hs=>aD eY hs.At ?_))))))
 have hs:=eG.shut (room:=m.room) (t:=(⟨t.code,t.at_,t.aK,t.counts,t.fault,t.e,t.f,t.buf⟩:fM)) qF hs.rR.rR.rR.rR;have hs:=ky.shut (m:=(ya m i x)) (⟨⟨hx.1.ln,hx.1.cl,hx.1.rc,hx.1.mem⟩,hx.2⟩) hs.p7.p7.p4.p7.p7;have hs:=((hs.p2.drop.p2).drop).p1;refine ⟨?_,?_⟩
 ·rfl
 ·skip; exact (St.join hs).mut
theorem C135 (K:World→Prop) (p:Nat) (m:gT) (n:Nat) (tp:Ptr) (t:fM) (i:Int) (x:aW) (ge gf:SV) (F:Nat→Prop) (w:World) (hF:(sep (eG K tp.b m.room t) (ky K p m n tp)).p w F) (hK:∀ w',iy F w w'→K w') (yN:t.buf.length≤1000) (Jr:xj m.mem) (tn:MB m.mem 1000000) (hxb:0≤x.b∧x.b<m.locks.length):CR 135 [(.pointer (some ⟨p,0,none⟩)),(.pointer (some ⟨tp.b,0,none⟩)),.int .i64 i,Flat.val (⟨x.kind,x.a,x.b,ge,gf,x.to⟩:bU)] w (λ v w'=>v=Flat.val (EY m i x)∧qk F (sep (eG K tp.b m.room (t)) (ky K p (uq m i x) n tp)) w w'):=by
 have hs:=(St.begin hF).split;obtain ⟨bp,gl,rg,cn,qF,hs⟩:=eG.open hs;obtain ⟨a,hx,hs⟩:=ky.open hs.p4;refine Zn _ _ _ _ _ _ ?_;unfold S135;refine dE (x:=(⟨x.kind,x.a,x.b,ge,gf,x.to⟩:bU)) hs (λ A8 w1 hs=>aN hs lB (λ A6 w2 hs=>aE (aA nQ (have hs:=hs.drew;aB en hs.p2.hb rfl (aA eV (aB (v:=.int .i64 x.b) bL hs.p1.hb rfl ?_))))));obtain ⟨pG,jQ⟩:=gx (m.locks) (i:=(x.b).toNat) (by omega);refine dS hs.p4 ee (by omega) (by omega) (λ _ qX=>gj hs.p4 bL qX jQ (cS (aC (λ gd=>?_) (λ gd=>?_))))
 ·refine aE (aA nR (aV hs.p2 bL (eF rfl) (rfl) (λ w3 hs=>aE (aA Dm (aV hs bL (eF rfl) (rfl) (λ w4 hs=>pop (A1 _ _) (aI (x:=(⟨16,0,3,0,0⟩:dA)) hs.p1 eY rfl rfl (λ w5 hs=>aD eY hs.At ?_))))))));have hgd:m.locks.getD x.b.toNat 0=pG:=by rw [List.getD_eq_getElem?_getD,jQ]; rfl
  have hgm:uq m i x={m with fault:=3,mJ:=i}:=by unfold uq; rw [hgd,if_neg gd]
  have HS:EY m i x=⟨16,0,3,0,0⟩:=by unfold EY; rw [hgd,if_neg gd]
  have hs:=eG.shut (room:=m.room) (t:=(⟨t.code,t.at_,t.aK,t.counts,t.fault,t.e,t.f,t.buf⟩:fM)) qF hs.rR.rR.rR.rR;have hs:=ky.shut (m:={m with fault:=3,mJ:=i}) (⟨⟨hx.1.ln,hx.1.cl,hx.1.rc,hx.1.mem⟩,hx.2⟩) hs.p7.p7.p7.p7.p6;have hs:=((hs.p2.drop.p2).drop).p1;refine ⟨?_,?_⟩
  ·rw [HS]; try rfl
  ·rw [hgm]; exact (St.join hs).mut
 ·refine aE (aA nQ (have hs:=hs.drew;aB en hs.p2.hb rfl (aA eV (aB (v:=.int .i64 x.b) bL hs.p1.hb rfl (dS hs.p4 ee (by omega) (by omega) (λ _ zT=>lF _ hs.p4 bL zT (by omega) (λ w6 hs=>aA eV (aB (v:=.int .i64 x.b) bL hs.p2.hb rfl (pop (A1 _ _) (aI (x:=(⟨11,0,x.b,0,0⟩:dA)) hs.p1 eY rfl rfl (λ w7 hs=>aD eY hs.At ?_)))))))))));have hgd:m.locks.getD x.b.toNat 0=pG:=by rw [List.getD_eq_getElem?_getD,jQ]; rfl
  have hgm:uq m i x={m with locks:=m.locks.set x.b.toNat (-1)}:=by unfold uq; rw [hgd,if_pos (by simpa using gd)]
  have HS:EY m i x=⟨11,0,x.b,0,0⟩:=by unfold EY; rw [hgd,if_pos (by simpa using gd)]
  have hs:=eG.shut (room:=m.room) (t:=(⟨t.code,t.at_,t.aK,t.counts,t.fault,t.e,t.f,t.buf⟩:fM)) qF hs.rR.rR.rR.rR;have hs:=ky.shut (m:={m with locks:=m.locks.set x.b.toNat (-1)}) (⟨⟨hx.1.ln,hx.1.cl,hx.1.rc,hx.1.mem⟩,hx.2⟩) hs.p7.p7.p4.p7.p7;have hs:=((hs.p2.drop.p2).drop).p1;refine ⟨?_,?_⟩
  ·rw [HS]; try rfl
  ·rw [hgm]; exact (St.join hs).mut
theorem C131 (K:World→Prop) (p:Nat) (m:gT) (n:Nat) (tp:Ptr) (t:fM) (i:Int) (x:aW) (ge gf:SV) (F:Nat→Prop) (w:World) (hF:(sep (eG K tp.b m.room t) (ky K p m n tp)).p w F) (hK:∀ w',iy F w w'→K w') (yN:t.buf.length≤1000) (Jr:xj m.mem) (tn:MB m.mem 1000000) (hkd:x.kind=3∨x.kind=5∨x.kind=6∨x.kind=7) (O7:x.kind=3→0≤x.b∧x.b<m.u.lines.length):CR 131 [(.pointer (some ⟨p,0,none⟩)),(.pointer (some ⟨tp.b,0,none⟩)),.int .i64 i,Flat.val (⟨x.kind,x.a,x.b,ge,gf,x.to⟩:bU)] w (λ v w'=>v=Flat.val (BZ m t x)∧qk F (sep (eG K tp.b m.room (vq m t x)) (ky K p (m) n tp)) w w'):=by
 have hs:=(St.begin hF).split;obtain ⟨bp,gl,rg,cn,qF,hs⟩:=eG.open hs;obtain ⟨a,hx,hs⟩:=ky.open hs.p4;refine Zj _ _ _ _ _ _ ?_;unfold S131;refine dE (x:=(⟨x.kind,x.a,x.b,ge,gf,x.to⟩:bU)) hs (λ A8 w1 hs=>aN hs lB (λ A6 w2 hs=>wA hs (λ VB w3 hs=>g9 hs Tryz.underlying272 oJ (by decide) (λ w4 hs=>g9 hs Tryz.underlying272 oJ (by decide) (λ w5 hs=>g9 hs Tryz.underlying272 oJ (by decide) (λ w6 hs=>g9 hs Tryz.underlying272 oJ (by decide) (λ w7 hs=>aA je (aB (v:=.int .i64 x.kind) bL hs.p2.hb rfl (aA eV (aB (v:=.int .i64 x.b) bL hs.p2.hb rfl (pop (M5 _ _) (aN hs uJ (λ b_y10 w8 hs=>?_)))))))))))))
 refine aI (x:=(⟨x.kind,x.b,0,0⟩:bJ)) hs kW rfl rfl (λ w9 hs=>?_);refine ⟨_,?_,λ _ h=>h⟩;refine aA je (aB (v:=.int .i64 x.kind) bL hs.p3.hb rfl (aH (aC (λ jr=>?_) (λ jr=>?_))))
 ·have hxb:=O7 jr;refine aE (aA tG (aA ml (have hs:=hs.drew;aB en hs.p4.hb rfl (aA eV (aB (v:=.int .i64 x.b) bL hs.p3.hb rfl ?_)))));obtain ⟨xW,yr⟩:=gx (m.u.lines) (i:=(x.b).toNat) (by omega);refine aQ ee (hx.1.ln _ (hK _ hs.aF)) (by omega) yr (λ _ wg=>aD bL (wg) (aA eV (aB (v:=.int .i64 x.b) bL hs.p3.hb rfl (aE (aA tI (aB bL hs.p9.hb rfl (aA kX (aV hs bL (eF rfl) (rfl) (λ pQ hs=>?_)))))))));have hs:=hs.enc (cs':=Flat.enc ({ (⟨x.kind,x.b,0,0⟩:bJ) with line:=xW}:bJ)) rfl;refine ⟨aG bL (hs.p3.hb.cell rfl),?_⟩
  refine ⟨aG bL (hs.p9.hb.cell rfl),?_⟩;refine aA nT (aV hs bL (eF rfl) (rfl) (λ sP hs=>?_));have hs:=hs.enc (cs':=Flat.enc ({ ({ (⟨x.kind,x.b,0,0⟩:bJ) with line:=xW}:bJ) with cell:=x.b}:bJ)) rfl;refine ⟨aG bL (hs.p9.hb.cell rfl),?_⟩;refine aA mT (aV hs bL (eF rfl) (rfl) (λ vi hs=>?_));have hs:=hs.enc (cs':=Flat.enc ({ ({ ({ (⟨x.kind,x.b,0,0⟩:bJ) with line:=xW}:bJ) with cell:=x.b}:bJ) with n:=t.e}:bJ)) rfl;intro fy;refine aE (aA nS (have hs:=hs.drew;aB rW hs.p9.hb rfl ?_));have hpy:uo m t x=({ ({ ({ (⟨x.kind,x.b,0,0⟩:bJ) with line:=xW}:bJ) with cell:=x.b}:bJ) with n:=t.e}:bJ):=by unfold uo; rw [if_pos jr,List.getD_eq_getElem?_getD,yr,← jr]; rfl
  refine aD kW hs.At (bG aev hs.rR (H':=λ _=>nH bp m.room (wz m.room t.buf (uo m t x))) (Φ:=λ _ _=>True) (λ F2 eO ew=>?_) ?_)
  ·rw [hpy]; exact (C196 bp m.room t.buf ({ ({ ({ (⟨x.kind,x.b,0,0⟩:bJ) with line:=xW}:bJ) with cell:=x.b}:bJ) with n:=t.e}:bJ) F2 _ eO (by omega)).mono λ _ _ r=>r.mono λ _ _ h=>⟨trivial,h.2⟩
  rintro _ sd _ hs;refine aA je (aB (v:=.int .i64 x.kind) bL hs.p4.hb rfl ?_)
  have Mu:(Go.Fw.look [3,5,6,7] [Value.int .i64 3,.int .i64 4,.int .i64 5,.int .i64 6] x.kind).getD (.int .i64 0) = .int .i64 (yF x.kind):=by
   have hk4:=hkd
   rcases hk4 with h | h | h | h <;> rw [h] <;> rfl
  refine ⟨_,oX hs.p2.Ab Tryz.underlying272 oJ BI,?_⟩;rw [show (Go.Fw.look ([]++[3]++[5]++[6]++[7]) ([]++[Value.int .i64 3]++[Value.int .i64 4]++[Value.int .i64 5]++[Value.int .i64 6]) x.kind).getD (.int .i64 0) = .int .i64 (yF x.kind) from Mu];refine aA eV (aB (v:=.int .i64 x.b) bL hs.p4.hb rfl (aA mT (aB (v:=.int .i64 ((({ ({ ({ (⟨x.kind,x.b,0,0⟩:bJ) with line:=xW}:bJ) with cell:=x.b}:bJ) with n:=t.e}:bJ)).n)) bL hs.p1.hb rfl (pop (pC _ _ _) (aI (x:=(⟨(yF x.kind),0,x.b,(({ ({ ({ (⟨x.kind,x.b,0,0⟩:bJ) with line:=xW}:bJ) with cell:=x.b}:bJ) with n:=t.e}:bJ)).n,0⟩:dA)) hs.p3 eY rfl rfl (λ vW hs=>aD eY hs.At ?_))))))
  have hs:=eG.shut (room:=m.room) (t:=(⟨t.code,t.at_,t.aK,t.counts,t.fault,t.e,t.f,(wz m.room t.buf (uo m t x))⟩:fM)) qF hs.p12.p12.p3.p12;have hs:=((ky.shut (m:=m) (⟨⟨hx.1.ln,hx.1.cl,hx.1.rc,hx.1.mem⟩,hx.2⟩) hs.p9.p9.p9.p9.p9).p2).drop;have hs:=(((hs.p2.drop.p2.drop).p2).drop).p1;refine ⟨?_,?_⟩
  ·unfold BZ; rw [hpy]
  ·rw [show vq m t x=(⟨t.code,t.at_,t.aK,t.counts,t.fault,t.e,t.f,(wz m.room t.buf (uo m t x))⟩:fM) from rfl]; exact (St.join hs).mut
 ·intro fy;refine aE (aA nS (have hs:=hs.drew;aB rW hs.p9.hb rfl ?_));have hpy:uo m t x=(⟨x.kind,x.b,0,0⟩:bJ):=by unfold uo; rw [if_neg jr]
  refine aD kW hs.At (bG aev hs.rR (H':=λ _=>nH bp m.room (wz m.room t.buf (uo m t x))) (Φ:=λ _ _=>True) (λ F2 eO ew=>?_) ?_)
  ·rw [hpy]; exact (C196 bp m.room t.buf (⟨x.kind,x.b,0,0⟩:bJ) F2 _ eO (by omega)).mono λ _ _ r=>r.mono λ _ _ h=>⟨trivial,h.2⟩
  rintro _ sd _ hs;refine aA je (aB (v:=.int .i64 x.kind) bL hs.p4.hb rfl ?_)
  have Mu:(Go.Fw.look [3,5,6,7] [Value.int .i64 3,.int .i64 4,.int .i64 5,.int .i64 6] x.kind).getD (.int .i64 0) = .int .i64 (yF x.kind):=by
   have hk4:=hkd
   rcases hk4 with h | h | h | h <;> rw [h] <;> rfl
  refine ⟨_,oX hs.p2.Ab Tryz.underlying272 oJ BI,?_⟩;rw [show (Go.Fw.look ([]++[3]++[5]++[6]++[7]) ([]++[Value.int .i64 3]++[Value.int .i64 4]++[Value.int .i64 5]++[Value.int .i64 6]) x.kind).getD (.int .i64 0) = .int .i64 (yF x.kind) from Mu];refine aA eV (aB (v:=.int .i64 x.b) bL hs.p4.hb rfl (aA mT (aB (v:=.int .i64 (((⟨x.kind,x.b,0,0⟩:bJ)).n)) bL hs.p1.hb rfl (pop (pC _ _ _) (aI (x:=(⟨(yF x.kind),0,x.b,((⟨x.kind,x.b,0,0⟩:bJ)).n,0⟩:dA)) hs.p3 eY rfl rfl (λ vW hs=>aD eY hs.At ?_))))));have hs:=eG.shut (room:=m.room) (t:=(⟨t.code,t.at_,t.aK,t.counts,t.fault,t.e,t.f,(wz m.room t.buf (uo m t x))⟩:fM)) qF hs.p12.p12.p3.p12
  have hs:=((ky.shut (m:=m) (⟨⟨hx.1.ln,hx.1.cl,hx.1.rc,hx.1.mem⟩,hx.2⟩) hs.p9.p9.p9.p9.p9).p2).drop;have hs:=(((hs.p2.drop.p2.drop).p2).drop).p1;refine ⟨?_,?_⟩
  ·unfold BZ; rw [hpy]
  ·rw [show vq m t x=(⟨t.code,t.at_,t.aK,t.counts,t.fault,t.e,t.f,(wz m.room t.buf (uo m t x))⟩:fM) from rfl]; exact (St.join hs).mut
def ia (m:Mem) (x:bJ):Mem:=if x.kind=3 then iH m x.cell x.n else if x.kind=7 then m else vz m x.line
def pN (t:Int) (x:bJ):dA:=if x.kind=3 then ⟨12,t,x.cell,x.n,0⟩ else if x.kind=7 then ⟨14,t,0,0,0⟩ else ⟨13,t,x.line,0,0⟩
def mr (m:gT) (t:fM) (p:ei):gT:={m with mem:=ia m.mem (eh t.buf p.i),l:=m.l.set p.t.toNat {t with buf:=ma t.buf p.i}}
section
variable {m:gT} {t:fM} {i:Int} {x:aW}
theorem xk:(dX m t i x).1.room=m.room:=by
 unfold dX Bv ya uq; repeat' split
 all_goals rfl
theorem IZ:(dX m t i x).1.l=m.l:=by
 unfold dX Bv ya uq; repeat' split
 all_goals rfl
theorem Oh:(dX m t i x).1.u=m.u:=by
 unfold dX Bv ya uq; repeat' split
 all_goals rfl
theorem CI:(dX m t i x).2.1.at_=t.at_:=by
 unfold dX loadT casT vq; repeat' split
 all_goals rfl
theorem qG:(dX m t i x).2.1.code=t.code:=by
 unfold dX loadT casT vq; repeat' split
 all_goals rfl
theorem W0 {room:Int} {l:List bJ} {y:bJ}:(wz room l y).length≤l.length∨((wz room l y).length:Int)≤room:=by
 unfold wz; split
 ·rename_i h; right; simp; omega
 ·left; exact Nat.le_refl _
theorem QL (h:G4 t) (hr:m.room≤16):G4 (dX m t i x).2.1:=by
 have h1:=h.rg; have h2:=h.cn; have h3:=h.Tl; have h4:=h.bl
 have h5:=W0 (room:=m.room) (l:=t.buf) (y:=uo m t x)
 unfold dX loadT casT vq
 repeat' split
 all_goals first
  | exact h
  | exact ⟨h.code,by simpa using h1,h2,h3,h4⟩
  | exact ⟨h.code,h1,h2,h3,by dsimp only; omega⟩
end
def mD (N:Nat) (m:gT) (i:Int):Option (gT × dA):=match m.l[i.toNat]? with
 | none=>none
 | some t=>if t.fault≠0 then some ({m with fault:=t.fault,mJ:=i},⟨16,i,t.fault,0,0⟩) else match gR t with
  | none=>none
  | some x=>if (dX m t i x).1.fault=0 then
    (sI N { (dX m t i x).2.1 with at_:=(dX m t i x).2.1.at_+1}).map λ t2=>({ (dX m t i x).1 with l:=(dX m t i x).1.l.set i.toNat t2},{ (dX m t i x).2.2 with t:=i})
   else some ({ (dX m t i x).1 with l:=(dX m t i x).1.l.set i.toNat (dX m t i x).2.1},{ (dX m t i x).2.2 with t:=i})
theorem Ao {N:Nat} {m m':gT} {i:Int} {t:fM} {ev:dA} (h:mD N m i=some (m',ev)) (ht:m.l[i.toNat]? = some t) (hf:t.fault≠0):m'={m with fault:=t.fault,mJ:=i}∧ev=⟨16,i,t.fault,0,0⟩:=by
 unfold mD at h; rw [ht] at h; dsimp only at h; rw [if_pos hf] at h
 have:=Option.some.inj h
 exact ⟨(congrArg Prod.fst this).symm,(congrArg Prod.snd this).symm⟩
theorem Ap {N:Nat} {m m':gT} {i:Int} {t:fM} {ev:dA} (h:mD N m i=some (m',ev)) (ht:m.l[i.toNat]? = some t) (hf:¬ t.fault≠0):∃ x,gR t=some x:=by
 unfold mD at h; rw [ht] at h; dsimp only at h; rw [if_neg hf] at h
 cases hn:gR t with
 | none=>rw [hn] at h; cases h
 | some x=>exact ⟨x,rfl⟩
theorem Aq {N:Nat} {m m':gT} {i:Int} {t:fM} {x:aW} {ev:dA} (h:mD N m i=some (m',ev)) (ht:m.l[i.toNat]? = some t) (hf:¬ t.fault≠0) (hn:gR t=some x) (h0:(dX m t i x).1.fault=0) :
  ∃ t2,sI N { (dX m t i x).2.1 with at_:=(dX m t i x).2.1.at_+1}=some t2∧m'={ (dX m t i x).1 with l:=(dX m t i x).1.l.set i.toNat t2}∧ev={ (dX m t i x).2.2 with t:=i}:=by
 unfold mD at h; rw [ht] at h; dsimp only at h; rw [if_neg hf,hn] at h; dsimp only at h; rw [if_pos h0] at h
 cases hg:sI N { (dX m t i x).2.1 with at_:=(dX m t i x).2.1.at_+1} with
 | none=>rw [hg] at h; cases h
 | some t2=>
  rw [hg] at h
  have:=Option.some.inj h
  exact ⟨t2,rfl,(congrArg Prod.fst this).symm,(congrArg Prod.snd this).symm⟩
theorem Ar {N:Nat} {m m':gT} {i:Int} {t:fM} {x:aW} {ev:dA} (h:mD N m i=some (m',ev)) (ht:m.l[i.toNat]? = some t) (hf:¬ t.fault≠0) (hn:gR t=some x) (h0:¬ (dX m t i x).1.fault=0) :
  m'={ (dX m t i x).1 with l:=(dX m t i x).1.l.set i.toNat (dX m t i x).2.1}∧ev={ (dX m t i x).2.2 with t:=i}:=by
 unfold mD at h; rw [ht] at h; dsimp only at h; rw [if_neg hf,hn] at h; dsimp only at h; rw [if_neg h0] at h
 have:=Option.some.inj h
 exact ⟨(congrArg Prod.fst this).symm,(congrArg Prod.snd this).symm⟩
def W1:List Int:=[]++[2]++[3]++[5]++[6]++[7]++[4]++[8]++[9]++[10]
def Oi (g:Nat):Value:=.func (.func g) #[] #[]
def W3:List Value:=[]++[Oi 130]++[Oi 131]++[Oi 131]++[Oi 131]++[Oi 131]++[Oi 132]++[Oi 133]++[Oi 134]++[Oi 135]
theorem W4 (K:World→Prop) (p:Nat) (m:gT) (n:Nat) (tp:Ptr) (t:fM) (i:Int) (x:aW) (ge gf:SV) (hk:2≤x.kind∧x.kind≤10) (yN:t.buf.length≤1000) (Jr:xj m.mem) (tn:MB m.mem 1000000)
  (hxa:x.kind=2∨x.kind=4→0≤x.a∧x.a<t.aK.length) (hxb:x.kind=9∨x.kind=10→0≤x.b∧x.b<m.locks.length) (O7:x.kind=3→0≤x.b∧x.b<m.u.lines.length) :
  ∃ g,Go.Fw.look W1 W3 x.kind=some (Oi g)∧Plain PG g∧∀ (F:Nat→Prop) (w:World),(sep (eG K tp.b m.room t) (ky K p m n tp)).p w F→(∀ w',iy F w w'→K w')→
   Calls PG g [.pointer (some ⟨p,0,none⟩),.pointer (some ⟨tp.b,0,none⟩),.int .i64 i,Flat.val (⟨x.kind,x.a,x.b,ge,gf,x.to⟩:bU)].toArray w
    (qg λ v w'=>v=Flat.val (dX m t i x).2.2∧qk F (sep (eG K tp.b (dX m t i x).1.room (dX m t i x).2.1) (ky K p (dX m t i x).1 n tp)) w w'):=by
 have hr:=xk (m:=m) (t:=t) (i:=i) (x:=x)
 rw [hr]
 obtain h | h | h | h | h | h | h | h | h:x.kind=2∨x.kind=3∨x.kind=4∨x.kind=5∨x.kind=6∨x.kind=7∨x.kind=8∨x.kind=9∨x.kind=10:=by omega
 ·exact ⟨130,by rw [h]; rfl,amJ,λ F w hF hK=>by
   have e:dX m t i x=(m,loadT m t x,LH m t x):=by unfold dX; rw [if_pos h]
   rw [e]; exact C130 K p m n tp t i x ge gf F w hF hK yN Jr tn (hxa (.inl h))⟩
 ·exact ⟨131,by rw [h]; rfl,Pe,λ F w hF hK=>by
   have e:dX m t i x=(m,vq m t x,BZ m t x):=by unfold dX; simp [h]
   rw [e]; exact C131 K p m n tp t i x ge gf F w hF hK yN Jr tn (.inl h) O7⟩
 ·exact ⟨132,by rw [h]; rfl,amK,λ F w hF hK=>by
   have e:dX m t i x=(Bv m t x,casT m t x,Og m t x):=by unfold dX; simp [h]
   rw [e]; exact C132 K p m n tp t i x ge gf F w hF hK yN Jr tn (hxa (.inr h))⟩
 ·exact ⟨131,by rw [h]; rfl,Pe,λ F w hF hK=>by
   have e:dX m t i x=(m,vq m t x,BZ m t x):=by unfold dX; simp [h]
   rw [e]; exact C131 K p m n tp t i x ge gf F w hF hK yN Jr tn (.inr (.inl h)) O7⟩
 ·exact ⟨131,by rw [h]; rfl,Pe,λ F w hF hK=>by
   have e:dX m t i x=(m,vq m t x,BZ m t x):=by unfold dX; simp [h]
   rw [e]; exact C131 K p m n tp t i x ge gf F w hF hK yN Jr tn (.inr (.inr (.inl h))) O7⟩
 ·exact ⟨131,by rw [h]; rfl,Pe,λ F w hF hK=>by
   have e:dX m t i x=(m,vq m t x,BZ m t x):=by unfold dX; simp [h]
   rw [e]; exact C131 K p m n tp t i x ge gf F w hF hK yN Jr tn (.inr (.inr (.inr h))) O7⟩
 ·exact ⟨133,by rw [h]; rfl,amL,λ F w hF hK=>by
   have e:dX m t i x=(m,t,⟨7,0,0,0,0⟩):=by unfold dX; simp [h]
   rw [e]; exact C133 K p m n tp t i x ge gf F w hF hK yN Jr tn⟩
 ·exact ⟨134,by rw [h]; rfl,amM,λ F w hF hK=>by
   have e:dX m t i x=(ya m i x,t,⟨10,0,x.b,0,0⟩):=by unfold dX; simp [h]
   rw [e]; exact C134 K p m n tp t i x ge gf F w hF hK yN Jr tn (hxb (.inl h))⟩
 ·exact ⟨135,by rw [h]; rfl,amN,λ F w hF hK=>by
   have e:dX m t i x=(uq m i x,t,EY m i x):=by unfold dX; simp [h]
   rw [e]; exact C135 K p m n tp t i x ge gf F w hF hK yN Jr tn (hxb (.inr h))⟩
theorem W5 {k:Int} {g:Nat} {z:Value} (h:Go.Fw.look W1 W3 k=some (Oi g)):(Go.Fw.look ([]++[2]++[3]++[5]++[6]++[7]++[4]++[8]++[9]++[10]) ([]++[Value.func (.func 130) #[] #[]]++[Value.func (.func 131) #[] #[]]++[Value.func (.func 131) #[] #[]]++[Value.func (.func 131) #[] #[]]++[Value.func (.func 131) #[] #[]]++[Value.func (.func 132) #[] #[]]++[Value.func (.func 133) #[] #[]]++[Value.func (.func 134) #[] #[]]++[Value.func (.func 135) #[] #[]]) k).getD z=Oi g:=by
 have h2:Go.Fw.look ([]++[2]++[3]++[5]++[6]++[7]++[4]++[8]++[9]++[10]) ([]++[Value.func (.func 130) #[] #[]]++[Value.func (.func 131) #[] #[]]++[Value.func (.func 131) #[] #[]]++[Value.func (.func 131) #[] #[]]++[Value.func (.func 131) #[] #[]]++[Value.func (.func 132) #[] #[]]++[Value.func (.func 133) #[] #[]]++[Value.func (.func 134) #[] #[]]++[Value.func (.func 135) #[] #[]]) k=some (Oi g):=h
 rw [h2]; rfl
theorem C62 (K:World→Prop) (p:Nat) (m:gT) (q:ei) (qv:dT) (t:fM) (F:Nat→Prop) (w:World) (hF:(eP K p m).p w F) (hK:∀ w',iy F w w'→K w') (mq:rC m) (tn:MB m.mem 1000000) (hq:cA.dr w qv q) (h0:0≤q.t) (ht:m.l[q.t.toNat]? = some t):CR 62 [(.pointer (some ⟨p,0,none⟩)),Flat.val qv] w (λ v w'=>v=Flat.val (pN q.t (eh t.buf q.i))∧qk F (eP K p (mr m t q)) w w'):=by
 have hs:=St.begin hF;obtain ⟨a,hu,hs⟩:=eP.open hs;have wE:=hs.p4.lg;obtain ⟨QJ,rfl,adi⟩:=hq;have yN:=(mq.th t (List.mem_of_getElem? ht)).bl;have mv:=(List.getElem?_eq_some_iff.1 ht).1;refine ahd _ _ _ _ ?_;unfold S62;refine dE hs (λ wk w1 hs=>aN hs lB (λ Cf w2 hs=>?_));refine ⟨_,?_,λ _ _ h=>h⟩;refine aE (aA ke (have hs:=hs.drew;aB qP hs.p2.hb rfl (aA jC (aB (v:=.int .i64 ((q).t)) bL hs.p1.hb rfl ?_))));obtain ⟨jj,dD⟩:=gx (a.ps) (i:=((q).t).toNat) (by omega);refine dS hs.p5 rY (by omega) (by omega) (λ _ iN=>gj hs.p5 BJ iN dD ?_)
 have hs:=WX hs.p6 dD ht;obtain ⟨bp,gl,rg,cn,qF,hs⟩:=eG.open hs;refine aE (aA nS (aB rW hs.hb rfl (aA wV (aB (v:=.int .i64 ((q).i)) bL hs.p6.hb rfl ?_))));refine ⟨?_,?_⟩
 ·refine bG aek hs.p1 (H':=λ _=>nH bp m.room (ma t.buf q.i)) (Φ:=λ v _=>v = .tuple #[Flat.val (eh t.buf q.i),.int .i64 (Aa t.buf q.i)]) (λ F2 eO ew=>?_) ?_
  ·exact C127 bp m.room t.buf q.i F2 _ eO (by omega)
  rintro _ w3 rfl hs;refine bE rfl (bE rfl (aN hs uJ (λ ua w4 hs=>?_)));refine ⟨aG qP (hs.p8.hb.cell rfl),?_⟩;refine ⟨aG bL (hs.p7.hb.cell rfl),?_⟩;refine ⟨PK hs.p11 BJ iN dD,?_⟩;refine ⟨aG rW (hs.p2.hb.cell rfl),?_⟩;refine ⟨aG bL (hs.p7.hb.cell rfl),?_⟩;refine aI (x:=(eh t.buf q.i)) hs kW rfl rfl (λ w5 hs=>?_);intro fy;refine aA py (aB (v:=.int .i64 (((eh t.buf q.i)).kind)) bL hs.hb rfl (aH (aC (λ gh=>?_) (λ gh=>?_))))
  ·refine aE (aA jD (have hs:=hs.drew;aB rX hs.p8.hb rfl (aA nT (aB (v:=.int .i64 (((eh t.buf q.i)).cell)) bL hs.hb rfl (aA mT (aB (v:=.int .i64 (((eh t.buf q.i)).n)) bL hs.hb rfl (bG TZ hs.p9 (H':=λ _=>fU a.q a.ov a.fv (iH m.mem ((eh t.buf q.i)).cell ((eh t.buf q.i)).n)) (Φ:=λ _ _=>True) (λ F2 eO ew=>?_) ?_)))))))
   ·exact (C128 a.q a.ov a.fv m.mem F2 _ _ _ eO (λ w' hc=>hu.mem _ (hK w' (ew w' hc).aF)) mq.mem tn).mono λ _ _ r=>r.mono λ _ _ h=>⟨trivial,h.2⟩
   rintro _ pQ _ hs;refine aA jC (aB (v:=.int .i64 ((q).t)) bL hs.p8.hb rfl (aA nT (aB (v:=.int .i64 (((eh t.buf q.i)).cell)) bL hs.p1.hb rfl (aA mT (aB (v:=.int .i64 (((eh t.buf q.i)).n)) bL hs.p1.hb rfl (pop (xR _ _ _ _) (aI (x:=(⟨12,(q).t,((eh t.buf q.i)).cell,((eh t.buf q.i)).n,0⟩:dA)) hs.p7 eY rfl rfl (λ sP hs=>aD eY hs.At ?_))))))));have hs:=(eG.shut (room:=m.room) (t:={t with buf:=ma t.buf q.i}) qF hs.p6.p6.p5.p6).p4;have hs:=St.sb (H:=qa K m.room) (x:={t with buf:=ma t.buf q.i}) hs.p1 (by have:=(List.getElem?_eq_some_iff.1 ht).1; omega) wE dD
   have IN:ia m.mem (eh t.buf q.i)=iH m.mem (eh t.buf q.i).cell (eh t.buf q.i).n:=by unfold ia; rw [if_pos gh]
   have W6:pN q.t (eh t.buf q.i)=⟨12,q.t,(eh t.buf q.i).cell,(eh t.buf q.i).n,0⟩:=by unfold pN; rw [if_pos gh]
   have hs:=(show St w F (cD p (jT a (mr m t q))::fU a.q a.ov a.fv (mr m t q).mem::_) _ from by unfold mr; rw [IN]; exact hs.p7.p7.p4.p7);have hs:=eP.shut (m:=mr m t q) ⟨hu.ln,hu.cl,hu.rc,λ w hw=>by show ui _ _ (ia m.mem _) w; rw [IN]; first | exact hu.mem w hw | exact (hu.mem w hw).write | exact (hu.mem w hw).out⟩ hs;have hs:=(((hs.p1.drop.p1).drop).p1).drop;refine ⟨?_,hs.mut⟩;rw [W6]
  ·refine aH (aC (λ kG=>?_) (λ kG=>?_))
   ·refine aA jC (aB (v:=.int .i64 ((q).t)) bL hs.p7.hb rfl (pop (A0 _ _) (aI (x:=(⟨14,(q).t,0,0,0⟩:dA)) hs.p6 eY rfl rfl (λ vi hs=>aD eY hs.At ?_))));have hs:=(eG.shut (room:=m.room) (t:={t with buf:=ma t.buf q.i}) qF hs.p5.p5.p4.p5).p3;have hs:=St.sb (H:=qa K m.room) (x:={t with buf:=ma t.buf q.i}) hs.p1 (by have:=(List.getElem?_eq_some_iff.1 ht).1; omega) wE dD;have IN:ia m.mem (eh t.buf q.i)=m.mem:=by unfold ia; rw [if_neg gh,if_pos kG]
    have W6:pN q.t (eh t.buf q.i)=⟨14,q.t,0,0,0⟩:=by unfold pN; rw [if_neg gh,if_pos kG]
    have hs:=(show St w F (cD p (jT a (mr m t q))::fU a.q a.ov a.fv (mr m t q).mem::_) _ from by unfold mr; rw [IN]; exact hs.p7.p7.p7.p7);have hs:=eP.shut (m:=mr m t q) ⟨hu.ln,hu.cl,hu.rc,λ w hw=>by show ui _ _ (ia m.mem _) w; rw [IN]; first | exact hu.mem w hw | exact (hu.mem w hw).write | exact (hu.mem w hw).out⟩ hs;have hs:=(((hs.p1.drop.p1).drop).p1).drop;refine ⟨?_,hs.mut⟩;rw [W6]
   ·refine aE (aA jD (have hs:=hs.drew;aB rX hs.p8.hb rfl (aA kX (aB (v:=.int .i64 (((eh t.buf q.i)).line)) bL hs.hb rfl (bG ael hs.p9 (H':=λ _=>fU a.q a.ov a.fv (vz m.mem ((eh t.buf q.i)).line)) (Φ:=λ _ _=>True) (λ F2 eO ew=>?_) ?_)))))
    ·exact (C129 a.q a.ov a.fv m.mem F2 _ _ eO (λ w' hc=>hu.mem _ (hK w' (ew w' hc).aF)) mq.mem tn).mono λ _ _ r=>r.mono λ _ _ h=>⟨trivial,h.2⟩
    rintro _ vj _ hs;refine aA jC (aB (v:=.int .i64 ((q).t)) bL hs.p8.hb rfl (aA kX (aB (v:=.int .i64 (((eh t.buf q.i)).line)) bL hs.p1.hb rfl (pop (r8 _ _ _) (aI (x:=(⟨13,(q).t,((eh t.buf q.i)).line,0,0⟩:dA)) hs.p7 eY rfl rfl (λ sd hs=>aD eY hs.At ?_))))));have hs:=(eG.shut (room:=m.room) (t:={t with buf:=ma t.buf q.i}) qF hs.p6.p6.p5.p6).p4;have hs:=St.sb (H:=qa K m.room) (x:={t with buf:=ma t.buf q.i}) hs.p1 (by have:=(List.getElem?_eq_some_iff.1 ht).1; omega) wE dD;have IN:ia m.mem (eh t.buf q.i)=vz m.mem (eh t.buf q.i).line:=by unfold ia; rw [if_neg gh,if_neg kG]
    have W6:pN q.t (eh t.buf q.i)=⟨13,q.t,(eh t.buf q.i).line,0,0⟩:=by unfold pN; rw [if_neg gh,if_neg kG]
    have hs:=(show St w F (cD p (jT a (mr m t q))::fU a.q a.ov a.fv (mr m t q).mem::_) _ from by unfold mr; rw [IN]; exact hs.p7.p7.p4.p7);have hs:=eP.shut (m:=mr m t q) ⟨hu.ln,hu.cl,hu.rc,λ w hw=>by show ui _ _ (ia m.mem _) w; rw [IN]; first | exact hu.mem w hw | exact (hu.mem w hw).write | exact (hu.mem w hw).out⟩ hs;have hs:=(((hs.p1.drop.p1).drop).p1).drop;refine ⟨?_,hs.mut⟩;rw [W6]
 ·refine ⟨?_,?_⟩
  ·refine aN hs uJ (λ ax9 w6 hs=>?_);refine ⟨aG qP (hs.p8.hb.cell rfl),?_⟩;refine ⟨aG bL (hs.p7.hb.cell rfl),?_⟩;refine ⟨PK hs.p11 BJ iN dD,?_⟩;refine ⟨aG rW (hs.p1.hb.cell rfl),?_⟩;refine ⟨aG bL (hs.p7.hb.cell rfl),?_⟩;refine bG aek hs.p2 (H':=λ _=>nH bp m.room (ma t.buf q.i)) (Φ:=λ v _=>v = .tuple #[Flat.val (eh t.buf q.i),.int .i64 (Aa t.buf q.i)]) (λ F2 eO ew=>?_) ?_
   ·exact C127 bp m.room t.buf q.i F2 _ eO (by omega)
   rintro _ w7 rfl hs;refine bE rfl (bE rfl (aI (x:=(eh t.buf q.i)) hs.p1 kW rfl rfl (λ w8 hs=>?_)));intro fy;refine aA py (aB (v:=.int .i64 (((eh t.buf q.i)).kind)) bL hs.hb rfl (aH (aC (λ gh=>?_) (λ gh=>?_))))
   ·refine aE (aA jD (have hs:=hs.drew;aB rX hs.p8.hb rfl (aA nT (aB (v:=.int .i64 (((eh t.buf q.i)).cell)) bL hs.hb rfl (aA mT (aB (v:=.int .i64 (((eh t.buf q.i)).n)) bL hs.hb rfl (bG TZ hs.p9 (H':=λ _=>fU a.q a.ov a.fv (iH m.mem ((eh t.buf q.i)).cell ((eh t.buf q.i)).n)) (Φ:=λ _ _=>True) (λ F2 eO ew=>?_) ?_)))))))
    ·exact (C128 a.q a.ov a.fv m.mem F2 _ _ _ eO (λ w' hc=>hu.mem _ (hK w' (ew w' hc).aF)) mq.mem tn).mono λ _ _ r=>r.mono λ _ _ h=>⟨trivial,h.2⟩
    rintro _ pQ _ hs;refine aA jC (aB (v:=.int .i64 ((q).t)) bL hs.p8.hb rfl (aA nT (aB (v:=.int .i64 (((eh t.buf q.i)).cell)) bL hs.p1.hb rfl (aA mT (aB (v:=.int .i64 (((eh t.buf q.i)).n)) bL hs.p1.hb rfl (pop (xR _ _ _ _) (aI (x:=(⟨12,(q).t,((eh t.buf q.i)).cell,((eh t.buf q.i)).n,0⟩:dA)) hs.p7 eY rfl rfl (λ sP hs=>aD eY hs.At ?_))))))));have hs:=(eG.shut (room:=m.room) (t:={t with buf:=ma t.buf q.i}) qF hs.p6.p6.p5.p6).p4;have hs:=St.sb (H:=qa K m.room) (x:={t with buf:=ma t.buf q.i}) hs.p1 (by have:=(List.getElem?_eq_some_iff.1 ht).1; omega) wE dD
    have IN:ia m.mem (eh t.buf q.i)=iH m.mem (eh t.buf q.i).cell (eh t.buf q.i).n:=by unfold ia; rw [if_pos gh]
    have W6:pN q.t (eh t.buf q.i)=⟨12,q.t,(eh t.buf q.i).cell,(eh t.buf q.i).n,0⟩:=by unfold pN; rw [if_pos gh]
    have hs:=(show St w F (cD p (jT a (mr m t q))::fU a.q a.ov a.fv (mr m t q).mem::_) _ from by unfold mr; rw [IN]; exact hs.p7.p7.p4.p7);have hs:=eP.shut (m:=mr m t q) ⟨hu.ln,hu.cl,hu.rc,λ w hw=>by show ui _ _ (ia m.mem _) w; rw [IN]; first | exact hu.mem w hw | exact (hu.mem w hw).write | exact (hu.mem w hw).out⟩ hs;have hs:=(((hs.p1.drop.p1).drop).p1).drop;refine ⟨?_,hs.mut⟩;rw [W6]
   ·refine aH (aC (λ kG=>?_) (λ kG=>?_))
    ·refine aA jC (aB (v:=.int .i64 ((q).t)) bL hs.p7.hb rfl (pop (A0 _ _) (aI (x:=(⟨14,(q).t,0,0,0⟩:dA)) hs.p6 eY rfl rfl (λ vi hs=>aD eY hs.At ?_))));have hs:=(eG.shut (room:=m.room) (t:={t with buf:=ma t.buf q.i}) qF hs.p5.p5.p4.p5).p3;have hs:=St.sb (H:=qa K m.room) (x:={t with buf:=ma t.buf q.i}) hs.p1 (by have:=(List.getElem?_eq_some_iff.1 ht).1; omega) wE dD;have IN:ia m.mem (eh t.buf q.i)=m.mem:=by unfold ia; rw [if_neg gh,if_pos kG]
     have W6:pN q.t (eh t.buf q.i)=⟨14,q.t,0,0,0⟩:=by unfold pN; rw [if_neg gh,if_pos kG]
     have hs:=(show St w F (cD p (jT a (mr m t q))::fU a.q a.ov a.fv (mr m t q).mem::_) _ from by unfold mr; rw [IN]; exact hs.p7.p7.p7.p7);have hs:=eP.shut (m:=mr m t q) ⟨hu.ln,hu.cl,hu.rc,λ w hw=>by show ui _ _ (ia m.mem _) w; rw [IN]; first | exact hu.mem w hw | exact (hu.mem w hw).write | exact (hu.mem w hw).out⟩ hs;have hs:=(((hs.p1.drop.p1).drop).p1).drop;refine ⟨?_,hs.mut⟩;rw [W6]
    ·refine aE (aA jD (have hs:=hs.drew;aB rX hs.p8.hb rfl (aA kX (aB (v:=.int .i64 (((eh t.buf q.i)).line)) bL hs.hb rfl (bG ael hs.p9 (H':=λ _=>fU a.q a.ov a.fv (vz m.mem ((eh t.buf q.i)).line)) (Φ:=λ _ _=>True) (λ F2 eO ew=>?_) ?_)))))
     ·exact (C129 a.q a.ov a.fv m.mem F2 _ _ eO (λ w' hc=>hu.mem _ (hK w' (ew w' hc).aF)) mq.mem tn).mono λ _ _ r=>r.mono λ _ _ h=>⟨trivial,h.2⟩
     rintro _ vj _ hs;refine aA jC (aB (v:=.int .i64 ((q).t)) bL hs.p8.hb rfl (aA kX (aB (v:=.int .i64 (((eh t.buf q.i)).line)) bL hs.p1.hb rfl (pop (r8 _ _ _) (aI (x:=(⟨13,(q).t,((eh t.buf q.i)).line,0,0⟩:dA)) hs.p7 eY rfl rfl (λ sd hs=>aD eY hs.At ?_))))));have hs:=(eG.shut (room:=m.room) (t:={t with buf:=ma t.buf q.i}) qF hs.p6.p6.p5.p6).p4;have hs:=St.sb (H:=qa K m.room) (x:={t with buf:=ma t.buf q.i}) hs.p1 (by have:=(List.getElem?_eq_some_iff.1 ht).1; omega) wE dD;have IN:ia m.mem (eh t.buf q.i)=vz m.mem (eh t.buf q.i).line:=by unfold ia; rw [if_neg gh,if_neg kG]
     have W6:pN q.t (eh t.buf q.i)=⟨13,q.t,(eh t.buf q.i).line,0,0⟩:=by unfold pN; rw [if_neg gh,if_neg kG]
     have hs:=(show St w F (cD p (jT a (mr m t q))::fU a.q a.ov a.fv (mr m t q).mem::_) _ from by unfold mr; rw [IN]; exact hs.p7.p7.p4.p7);have hs:=eP.shut (m:=mr m t q) ⟨hu.ln,hu.cl,hu.rc,λ w hw=>by show ui _ _ (ia m.mem _) w; rw [IN]; first | exact hu.mem w hw | exact (hu.mem w hw).write | exact (hu.mem w hw).out⟩ hs;have hs:=(((hs.p1.drop.p1).drop).p1).drop;refine ⟨?_,hs.mut⟩;rw [W6]
  ·trivial
set_option maxHeartbeats 1000000 in
theorem C63 (K:World→Prop) (p:Nat) (m:gT) (N:Nat) (i:Int) (t:fM) (m2:gT) (ev:dA) (F:Nat→Prop) (w:World) (hF:(eP K p m).p w F) (hK:∀ w',iy F w w'→K w') (mq:rC m) (tn:MB m.mem 1000000) (h0:0≤i) (ht:m.l[i.toNat]? = some t) (sB:mD N m i=some (m2,ev)):CR 63 [(.pointer (some ⟨p,0,none⟩)),.int .i64 i] w (λ v w'=>v=Flat.val ev∧qk F (eP K p m2) w w'):=by
 have hs:=St.begin hF;obtain ⟨a,hu,hs⟩:=eP.open hs;have wE:=hs.p4.lg;have Cj:=List.mem_of_getElem? ht;have oB:=mq.th t Cj;have mv:=(List.getElem?_eq_some_iff.1 ht).1;refine ahe _ _ _ _ ?_;unfold S63;refine aN hs lB (λ Cf w1 hs=>aE (aA ke (aB qP hs.p1.hb rfl ?_)));obtain ⟨pG,jQ⟩:=gx (a.ps) (i:=(i).toNat) (by omega);refine dS hs.p4 rY (by omega) (by omega) (λ _ qX=>gj hs.p4 BJ qX jQ ?_);have hs:=WX hs.p5 jQ ht;obtain ⟨bp,gl,rg,cn,qF,hs⟩:=eG.open hs;refine aE (aA tH (aB bL hs.hb rfl (cS (aC (λ gr=>?_) (λ gr=>?_)))))
 ·refine aE (aA tH (aB bL hs.hb rfl (aE (aA nR (aV hs.p6 bL (eF rfl) (rfl) (λ w2 hs=>aE (aA Dm (aV hs bL (eF rfl) (rfl) (λ w3 hs=>aE (aA tH (aB bL hs.p1.hb rfl (pop (r8 _ _ _) ?_))))))))))));refine aI (x:=(⟨16,i,t.fault,0,0⟩:dA)) hs.p6 eY rfl rfl (λ w4 hs=>aD eY hs.At ?_);have hs:=St.sb (H:=qa K m.room) (x:=t) (((eG.shut (room:=m.room) (t:=t) qF hs.p5.p5.p5.p5).p3).p1) (by have:=(List.getElem?_eq_some_iff.1 ht).1; omega) wE jQ;rw [uM ht] at hs;have hs:=eP.shut (m:={m with fault:=t.fault,mJ:=i}) ⟨hu.ln,hu.cl,hu.rc,hu.mem⟩ hs.p5.p5.p5.p5
  have hs:=(hs.p1).drop;obtain ⟨rfl,rfl⟩:=Ao sB ht gr;exact ⟨rfl,hs.mut⟩
 ·have hs:=eG.shut (room:=m.room) (t:=t) qF hs.p3.p3.p3.p3;obtain ⟨x,vp⟩:=Ap sB ht gr;refine ey YM (C65 K pG.b m.room t _ (hs).has (hK _ hs.aF) oB) ?_;rintro v41 w5 hh;obtain ⟨x2,xv,aya,hxv,rfl,he⟩:=hh.resolve_left (λ h=>by rw [vp] at h; cases h.1);obtain rfl:x=x2:=Option.some.inj (vp.symm.trans aya);have hs:=hs.ext he;have hxm:=qE vp;obtain ⟨ge,gf,rfl,_,_⟩:=hxv _ (hK _ hs.aF);have hkd:=mq.st t Cj x vp (by omega);refine bE rfl (bE rfl (aN hs mn (λ N6 w6 hs=>have hs:=hs.enc (cs':=Flat.enc (⟨0,0,0,⟨none,0,0⟩,⟨none,0,0⟩,0⟩:bU)) rfl;aI (x:=(⟨x.kind,x.a,x.b,ge,gf,x.to⟩:bU)) hs lG rfl rfl (λ w7 hs=>wA hs (λ b_x44 w8 hs=>g9 hs Tryz.underlying211 oJ (by decide) (λ w9 hs=>g9 hs Tryz.underlying211 oJ (by decide) (λ pQ hs=>g9 hs Tryz.underlying211 oJ (by decide) (λ sP hs=>g9 hs Tryz.underlying211 oJ (by decide) (λ vi hs=>g9 hs Tryz.underlying211 oJ (by decide) (λ vj hs=>g9 hs Tryz.underlying211 oJ (by decide) (λ sd hs=>g9 hs Tryz.underlying211 oJ (by decide) (λ vW hs=>g9 hs Tryz.underlying211 oJ (by decide) (λ yM hs=>?_)))))))))))))
  refine g9 hs Tryz.underlying211 oJ (by decide) (λ Cd hs=>aA je (aB (v:=.int .i64 x.kind) bL hs.p1.hb rfl ?_));have hrl:=oB.rg;have Mu:=mq.lk;obtain ⟨g,aqX,vf,lQ⟩:=W4 K p m i.toNat pG t i x ge gf hkd oB.bl mq.mem tn (λ h=>by have:=mq.aqL t Cj x hxm.1 h; omega) (λ h=>by have:=mq.lkb t Cj x hxm.1 h; omega) (mq.lnb t Cj x hxm.1);refine ⟨_,oX hs.Ab Tryz.underlying211 oJ abg,?_⟩;rw [W5 aqX];refine aD lG hs.p1.At (have hs:=ky.shut (m:=m) (⟨hu,jQ,wE,by omega⟩) hs.p3.p8.p8.p8.p8;have hs:=St.join hs.p3;WN (first:=[]) (cap:=[]) vf hs (H':=λ _=>sep (eG K pG.b (dX m t i x).1.room (dX m t i x).2.1) (ky K p (dX m t i x).1 i.toNat pG)) (Φ:=λ v _=>v=Flat.val (dX m t i x).2.2) (λ F2 eO ew=>?_) ?_)
  ·exact lQ F2 _ eO (λ w' hc=>hK w' (ew w' hc).aF)
  rintro _ Il rfl hs;refine aN hs lB (λ b_e9 Jo hs=>aI (x:=(dX m t i x).2.2) hs eY rfl rfl (λ KA hs=>aA aa9 (aV hs bL (eF rfl) (rfl) (λ Mx hs=>?_))));have hs:=hs.enc (cs':=Flat.enc ({ (dX m t i x).2.2 with t:=i}:dA)) rfl;refine ⟨_,?_,λ _ h=>h⟩;refine aE ?_;have hs:=hs.p1.split.p1;obtain ⟨a2,hx,hs⟩:=ky.open hs;refine aA nR (aB bL hs.hb rfl (aH (aC (λ kq=>?_) (λ kq=>?_))))
  ·have hs:=ky.shut (m:=(dX m t i x).1) (hx) hs.p4.p4.p4.p4.p4;obtain ⟨t2,hg,rfl,rfl⟩:=Aq sB ht gr vp kq;have sR:(dX m t i x).2.1.at_=t.at_:=CI;have Ql:=oB.code.len;have ax3:=oB.Tl;have hs:=hs.p1;obtain ⟨bp,gl,rg,cn,qF,hs⟩:=eG.open hs;refine aE (aA kf (aB bL hs.hb rfl (aO (by omega) (aE (aA kf (aV hs bL (eF rfl) (rfl) (λ Qp hs=>?_)))))));have hs:=eG.shut (room:=(dX m t i x).1.room) (t:=(⟨(dX m t i x).2.1.code,((dX m t i x).2.1.at_+1),(dX m t i x).2.1.aK,(dX m t i x).2.1.counts,(dX m t i x).2.1.fault,(dX m t i x).2.1.e,(dX m t i x).2.1.f,(dX m t i x).2.1.buf⟩:fM)) qF hs.p3.p3.p3.p3
   have tf:=QL (m:=m) (t:=t) (i:=i) (x:=x) oB mq.rm.2;have W7:G4 { (dX m t i x).2.1 with at_:=(dX m t i x).2.1.at_+1}:=⟨tf.code,tf.rg,tf.cn,by dsimp only; omega,tf.bl⟩;refine bG aeg hs (H':=λ _=>eG K pG.b (dX m t i x).1.room t2) (Φ:=λ _ _=>True) (λ F2 eO ew=>?_) ?_
   ·exact (C122 K pG.b (dX m t i x).1.room { (dX m t i x).2.1 with at_:=(dX m t i x).2.1.at_+1} t2 N F2 _ eO (λ w' hc=>hK w' (ew w' hc).aF) W7 hg).mono λ _ _ r=>r.mono λ _ _ h=>⟨trivial,h.2⟩
   rintro _ Tn _ hs;intro fy;refine aD eY hs.p2.At (aI (x:=({ (dX m t i x).2.2 with t:=i}:dA)) hs.p5 eY rfl rfl (λ R7 hs=>aD eY hs.At ?_));have hs:=((((((((LG hs.p2.p2).p1).drop).p1).drop).p1).drop).p1).drop;exact ⟨rfl,hs.mut⟩
  ·intro fy;refine aD eY hs.p6.At (aI (x:=({ (dX m t i x).2.2 with t:=i}:dA)) hs.p9 eY rfl rfl (λ R7 hs=>aD eY hs.At ?_));have hs:=((((LG ((ky.shut (m:=(dX m t i x).1) (hx) hs.p5.p5.p5.p5.p5).p2)).p1).drop).p1).drop;have hs:=((hs.p1.drop).p1).drop;obtain ⟨rfl,rfl⟩:=Ar sB ht gr vp kq;exact ⟨rfl,hs.mut⟩
end Go.Proofs.YtnjcingfdhjfkaaGreat
namespace Go.Fw
def CJ (F:Nat→Prop) (w0 w':World):Prop:=∀ b,F b→w'.heap[b]? = w0.heap[b]?
section
variable {α σ:Type} [Flat σ] [D:cA α σ] {w w0:World} {A F:Nat→Prop} {L:List HP} {v:Value} {xs:List α} {ts us:List σ}
theorem St.aqY {Φ:World→Prop} (hs:St w0 A (Fw.eX Φ::L) w):∃ F,St w0 A (Fw.eX (CJ F w)::L) w∧∀ w',CJ F w w'→Φ w':=by
 obtain ⟨U,F,U',g1,g2,g3,g4,g5⟩:=hs.sK
 exact ⟨F,⟨hs.aF,U,F,U',⟨λ w' h=>h,g1.2⟩,g2,g3,g4,g5⟩,λ w' h=>g1.1 w' h⟩
theorem CJ.refl (F:Nat→Prop) (w:World):CJ F w w:=λ _ _=>rfl
theorem LI (inj:∀ x y:σ,Flat.enc x=Flat.enc y→x=y):∀ {ts us:List σ},ts.length=us.length→flat ts=flat us→ts=us
 | [],[],_,_=>rfl
 | t::ts,u::us,hl,h=>by
  rw [i0,i0] at h
  have:=List.append_inj h (by rw [Flat.len,Flat.len])
  rw [inj _ _ this.1,LI inj (by simpa using hl) this.2]
 | [],_::_,hl,_=>by simp at hl
 | _::_,[],hl,_=>by simp at hl
theorem eI.func {S S':Nat→Prop} (inj:∀ x y:σ,Flat.enc x=Flat.enc y→x=y) (h:eI S w v ts) (h':eI S' w v us):ts=us:=by
 obtain ⟨a,cap,rfl,hc,h3⟩:=h
 obtain ⟨a',J1,hv,hc',h3'⟩:=h'
 simp only [Value.slice.injEq] at hv
 obtain ⟨rfl,hl,rfl⟩:=hv
 refine LI inj hl (List.ext_getElem? λ j=>?_)
 have Ca:(flat ts).length=(flat us).length:=by rw [cQ,cQ,hl]
 by_cases hj:j<(flat ts).length
 ·have hj':j<(flat us).length:=by omega
  rcases h3 with ⟨rfl,_⟩ | ⟨b,o,rfl,_,h5⟩
  ·simp [j9] at hj
  ·rcases h3' with ⟨rfl,_⟩ | ⟨b',o',ha,_,h5'⟩
   ·simp [j9] at hj'
   ·simp only [Option.some.injEq,Addr.mk.injEq,and_true] at ha
    obtain ⟨rfl,rfl⟩:=ha
    have c1:=h5 j _ (List.getElem?_eq_getElem hj)
    have c2:=h5' j _ (List.getElem?_eq_getElem hj')
    unfold Cell at c1 c2
    rw [List.getElem?_eq_getElem hj,List.getElem?_eq_getElem hj']
    exact c1.symm.trans c2
 ·rw [List.getElem?_eq_none (by omega),List.getElem?_eq_none (by omega)]
theorem CJ.rd (h:∀ w',CJ F w w'→DL w' v xs) (hr:eI (λ _=>True) w v ts) (hn:ts.length=xs.length):∀ w',CJ F w w'→eI (λ _=>True) w' v ts:=by
 intro w' hw
 have hr0:=hr
 obtain ⟨a,cap,rfl,hc,h3⟩:=hr
 rcases h3 with ⟨h3,h4⟩ | ⟨b,o,rfl,h4,h5⟩
 ·exact ⟨a,cap,rfl,hc,.inl ⟨h3,h4⟩⟩
 ·cases ts with
  | nil=>exact ⟨_,cap,rfl,hc,.inr ⟨b,o,rfl,λ h=>absurd rfl h,λ j c hj=>by simp [j9] at hj⟩⟩
  | cons t ts=>
   by_cases hF:F b
   ·exact ⟨_,cap,rfl,hc,.inr ⟨b,o,rfl,λ _=>trivial,λ j c hj=>(h5 j c hj).of_eq (hw b hF)⟩⟩
   ·exfalso
    have h6:DL (ChangeMaps.setBlock w b (.map #[] 0)) (.slice (some ⟨b,o,none⟩) (t::ts).length cap) xs:=h _ λ b' hb'=>by
     simp only [ChangeMaps.setBlock]; exact Array.getElem?_setIfInBounds_ne (λ e=>hF (by rw [e]; exact hb'))
    obtain ⟨us,⟨a',J1,hv,_,h7⟩,hul,_⟩:=h6
    simp only [Value.slice.injEq] at hv
    obtain ⟨rfl,hl,rfl⟩:=hv
    have zh:0<(flat us).length:=by rw [cQ,← hl]; exact Nat.mul_pos (by simp) (Flat.pos (α:=σ))
    rcases h7 with ⟨rfl,_⟩ | ⟨b',o',ha,_,h8⟩
    ·simp at hl
    ·simp only [Option.some.injEq,Addr.mk.injEq,and_true] at ha
     obtain ⟨rfl,rfl⟩:=ha
     have zg:=h8 0 _ (List.getElem?_eq_getElem zh)
     have hb:=(h5 0 _ (List.getElem?_eq_getElem (by rw [cQ]; exact Nat.mul_pos (by simp) (Flat.pos (α:=σ))))).lt
     unfold Cell World.cell? at zg
     dsimp only at zg
     rw [me _ hb] at zg
     simp at zg
theorem CJ.fix (inj:∀ x y:σ,Flat.enc x=Flat.enc y→x=y) (h:∀ w',CJ F w w'→DL w' v xs):∃ ts:List σ,ts.length=xs.length∧∀ w',CJ F w w'→eI (λ _=>True) w' v ts∧jO ts xs w':=by
 obtain ⟨ts,hr,hd⟩:=(h w (CJ.refl F w)).open
 refine ⟨ts,hd.1,λ w' hw=>?_⟩
 have h1:=CJ.rd h hr hd.1 w' hw
 obtain ⟨us,Yd,hd'⟩:=(h w' hw).open
 rw [eI.func inj h1 Yd] at *
 exact ⟨Yd,hd'⟩
end
section
variable {P:Program} {T:Nat} {cx cy:Bool} {a b:Int} {K:Value→Prop}
theorem W8 (h:0≤a - b∧a - b≤255) (k:K (.int .u8 (a - b))):cT P (iw .sub T cx cy (.int .u8 a) (.int .u8 b)) K:=
 ⟨_,(show pr P (iw .sub T cx cy (.int .u8 a) (.int .u8 b))=some (.int .u8 (a - b)) from by
  show some (Value.int .u8 (IntKind.u8.wrap (a - b)))=_
  have:IntKind.u8.wrap (a - b)=a - b:=by
   unfold IntKind.wrap; simp [IntKind.bits,IntKind.signed]; omega
  rw [this]),k⟩
theorem Sx {src dst:TypeId} (h1:P.underlying src=some (.int .u8)) (h2:P.underlying dst=some (.int .i64)) (h:0≤a∧a≤255) (k:K (.int .i64 a)):cT P (convert src dst (.int .u8 a)) K:=by
 refine ⟨_,?_,k⟩
 unfold convert
 simp only [cM,cL h1,cL h2,Option.bind_some]
 show some (Value.int .i64 (IntKind.i64.wrap a))=_
 rw [IntWalk.i64_in _ (by omega)]
end
end Go.Fw
namespace Go.Proofs.YtnjcingfdhjfkaaGreat
open Go.Fw
def qb (c:fm):fM:=⟨c,0,List.replicate c.aK.toNat 0,List.replicate c.counts.toNat 0,0,0,0,[]⟩
def rD (N:Nat) (cs:List fm) (ts:List fM):Prop:=ts.length=cs.length∧∀ (j:Nat) (c:fm) (t:fM),cs[j]? = some c→ts[j]? = some t→sI N (qb c)=some t
theorem I0 {c:fm} (h:Bs c):G4 (qb c):=⟨h,by have:=h.rb; simp [qb]; omega,by have:=h.cb; simp [qb]; omega,by simp [qb],by simp [qb]⟩
def aqZ (K:World→Prop) (Oj:List cK) (cs:List fm):Prop:=Oj.length=cs.length∧∀ (j:Nat) (cv:cK) (c:fm),Oj[j]? = some cv→cs[j]? = some c→∃ gl:SV,cv=⟨c.aK,c.counts,gl⟩∧EW K (Flat.val gl) c.l
theorem Ok (x y:cK) (h:Flat.enc x=Flat.enc y):x=y:=by
 obtain ⟨a,b,⟨c,d,e⟩⟩:=x; obtain ⟨a',b',⟨c',d',e'⟩⟩:=y; simp [Flat.enc] at h; simp [h]
theorem LJ (x y:bU) (h:Flat.enc x=Flat.enc y):x=y:=by
 obtain ⟨a,b,c,⟨d,e,f⟩,⟨g,i,j⟩,k⟩:=x; obtain ⟨a',b',c',⟨d',e',f'⟩,⟨g',i',j'⟩,k'⟩:=y; simp [Flat.enc] at h; simp [h]
theorem LK {F:Nat→Prop} {w1:World} {gl:Value} {l:List aW} (h:∀ w',CJ F w1 w'→DL w' gl l):EW (CJ F w1) gl l:=by
 obtain ⟨ts,_,h2⟩:=CJ.fix LJ h; exact ⟨ts,h2⟩
def mu (u:im) (room:Int):gT:=⟨u,room,WO u.lines u.stays u.dC,[],[],0,0,0⟩
def mK (m:gT) (ts:List fM):gT:={m with locks:=List.replicate m.u.locks.toNat (-1),l:=ts}
theorem W9 {w w0:World} {A:Nat→Prop} {L:List HP} {p q:Nat} {u:im} {room:Int} {sh:dL} {ov fv:SV}
  (hs:St w0 A (cD p (jT ⟨sh.lines,sh.dC,sh.threads,sh.recover.l,sh.cC,q,Flat.val ov,Flat.val fv,.slice none 0 0,.slice none 0 0,[]⟩ (mu u room)) ::
   fU q (Flat.val ov) (Flat.val fv) (WO u.lines u.stays u.dC)::bK (Flat.val ov) (u.lines.take u.stays.toNat)::bK (Flat.val fv) u.dC::eX (λ w=>cA.dr w sh u)::L) w) :
  ∃ (K:World→Prop) (Oj:List cK),St w0 A (eP K p (mu u room)::eX K::L) w∧(∀ w,K w→eI (λ _=>True) w (Flat.val sh.threads) Oj)∧aqZ K Oj u.threads:=by
 have h1:=hs.p2.freeze
 have h2:=(h1.p3.freeze).p1.fL
 have h3:=(h2.p3.p1.fL)
 obtain ⟨F,h4,h5⟩:=h3.aqY
 have hd:∀ w',CJ F w w'→cA.dr w' sh u:=λ w' h=>by have:=h5 w' h; first | exact this.1 | exact this.2 | exact this.1.1 | exact this.2.2
 have hov:∀ w',CJ F w w'→eI (λ _=>True) w' (Flat.val ov) (u.lines.take u.stays.toNat):=λ w' h=>by have:=h5 w' h; first | exact this.1.1 | exact this.1.2 | exact this.2.1 | exact this.2.2
 have hfv:∀ w',CJ F w w'→eI (λ _=>True) w' (Flat.val fv) u.dC:=λ w' h=>by have:=h5 w' h; first | exact this.1.1 | exact this.1.2 | exact this.2.1 | exact this.2.2
 have hth:∀ w',CJ F w w'→DL w' (Flat.val sh.threads) u.threads:=λ w' h=>by obtain ⟨_,_,_,_,_,e,q1,q2,q3,q4,q5⟩:=hd w' h; rw [e]; exact q3
 obtain ⟨Oj,Ql,Si⟩:=CJ.fix Ok hth
 refine ⟨CJ F w,Oj,?_,λ w' h=>(Si w' h).1,Ql,λ j cv c h1 h2=>?_⟩
 ·have h6:St w0 A (iz (qa (CJ F w) room) [] []::_) w:=h4.new (Ext.refl w) (F:=bD) (λ _ h=>h) λ _ h=>h.elim
  have h7:=((h6.fX (α:=Ptr)).fX (α:=Int))
  refine eP.shut (a:=⟨sh.lines,sh.dC,sh.threads,sh.recover.l,sh.cC,q,Flat.val ov,Flat.val fv,.slice none 0 0,.slice none 0 0,[]⟩) (m:=mu u room) ⟨λ w' h=>?_,λ w' h=>?_,LK λ w' h=>?_,λ w' h=>⟨hov w' h,hfv w' h⟩⟩ h7.p5.p5
  ·obtain ⟨_,_,_,_,_,e,q1,q2,q3,q4,q5⟩:=hd w' h; rw [e]; exact DL.flat q1
  ·obtain ⟨_,_,_,_,_,e,q1,q2,q3,q4,q5⟩:=hd w' h; rw [e]; exact q5
  ·obtain ⟨_,_,_,_,_,e,q1,q2,q3,q4,q5⟩:=hd w' h; rw [e]
   obtain ⟨g,e2,q6⟩:=q4; rw [e2]; exact q6
 ·have hh:∀ w',CJ F w w'→cA.dr w' cv c:=λ w' h=>(Si w' h).2.2 j cv c h1 h2
  obtain ⟨gl,e,_⟩:=hh w (CJ.refl F w)
  subst e
  exact ⟨gl,rfl,LK λ w' h=>by obtain ⟨gl',e,h6⟩:=hh w' h; cases e; exact h6⟩
structure QM (N:Nat) (u:im) (nf:List fM):Prop where
 b:rD N u.threads nf
 co:∀ c∈u.threads,Bs c
 len:u.lines.length=u.dC.length
 l20:u.lines.length≤20
 st:0≤u.stays∧u.stays≤u.lines.length
 ln:∀ (k:Nat) (n:Int),(k:Int)<u.stays→u.lines[k]? = some n→(n=lq u.lines k∨(0<k∧n=lq u.lines k - 1))∧-10≤n∧n≤100
 lk:0≤u.locks∧u.locks≤1000
set_option maxHeartbeats 1000000 in
theorem C55 (K:World→Prop) (p:Nat) (m:gT) (N:Nat) (LL:List fm) (nf:List fM) (lv:Value) (Oj:List cK) (F:Nat→Prop) (w:World) (hF:(eP K p m).p w F) (hK:∀ w',iy F w w'→K w') (hrm:1≤m.room∧m.room≤16) (Mu:0≤m.u.locks∧m.u.locks≤1000) (hl:∀ w',iy F w w'→eI (λ _=>True) w' lv Oj) (Si:aqZ K Oj LL) (ayc:∀ c∈LL,Bs c) (hb:rD N LL nf) (hn:LL.length≤1000):CR 55 [(.pointer (some ⟨p,0,none⟩)),lv] w (λ v w'=>v = .tuple #[]∧qk F (eP K p (mK m nf)) w w'):=by
 have hs:=St.begin hF;obtain ⟨a,hu,hs⟩:=eP.open hs;have wE:=hs.p4.lg;have hcvl:=Si.1;refine ag6 _ _ _ _ ?_;unfold S55;refine aE (aA ke (aV hs qP (eF rfl) (rfl) (λ w1 hs=>aE (aA nQ (aV hs en (eF rfl) (rfl) (λ w2 hs=>aE (aA tG (aA Cx (aB bL hs.hb rfl ?_)))))))));have hs:=(((hs.p3.drop.p3.drop.p2.drop.fX (α:=Int)).p2).p1).p2;refine ⟨λ mm x w'=>∃ (k:Nat) (HA:Value),x = .int .i64 (k:Int)∧mm=m.u.locks.toNat - k∧k≤m.u.locks.toNat∧St w F [cD p (jT {a with lk:=HA,ll:=.slice none 0 0} m),bK HA (List.replicate k (-1:Int)),fU a.q a.ov a.fv m.mem] w',⟨_,0,_,rfl,rfl,Nat.zero_le _,hs⟩,?_⟩
 rintro mm _ w3 ⟨k,HA,rfl,rfl,Tg,hs⟩ fy;refine aR (aC (λ gr=>?_) (λ gr=>?_))
 ·refine aE (aA nQ (aB en hs.hb rfl (bW (([-1]:List Int)) hs ee rfl rfl (eF rfl) (λ PY w4 hs=>?_))));have Ed:=(hs).fK;refine cN hs.p2 ee Ed (by rw [List.length_replicate,List.length_singleton]; omega) (by decide) (λ aq0 w5 hs=>have hs:=hs.p1.drop;aE (aA nQ (aV hs.p1 en (eF rfl) ((hs).fK.one) (λ w6 hs=>aO (by omega) ?_))));have hs:=hs.p2.p2.p2;exact ⟨_,by omega,k+1,aq0,rfl,rfl,by omega,by rw [List.replicate_succ']; exact hs⟩
 ·refine aJ AY (hl _ hs.aF) ?_;have hs:=hs.p1;rw [show k=m.u.locks.toNat from by omega] at hs;have hs:=((((((hs.Kx (H:=qa K m.room)).fX (α:=Ptr)).p4).p3).p3).p3).p4;refine ⟨λ mm x w'=>∃ (j:Nat) (Xa:Value) (ps:List Ptr),x = .int .i64 (j:Int)∧mm=Oj.length - j∧j≤Oj.length∧St w F [cD p (jT {a with lk:=HA,ll:=Xa} m),bK Xa ps,iz (qa K m.room) ps (nf.take j),bK HA (List.replicate m.u.locks.toNat (-1:Int)),fU a.q a.ov a.fv m.mem] w',⟨_,0,_,_,rfl,rfl,Nat.zero_le _,hs⟩,?_⟩;rintro mm _ w7 ⟨j,Xa,ps,rfl,rfl,hj1,hs⟩ jw;refine aR (aC (λ jq=>?_) (λ jq=>?_))
  ·refine ⟨_,?_,λ _ h=>h⟩;obtain ⟨afH,EI⟩:=gx (Oj) (i:=((j:Int)).toNat) (by omega);refine aQ AY (hl _ hs.aF) (by omega) EI (λ _ tV=>?_);obtain ⟨c,hc⟩:∃ c,LL[j]? = some c:=⟨_,List.getElem?_eq_getElem (by have:=Si.1; omega)⟩;obtain ⟨t1,ht1⟩:∃ t,nf[j]? = some t:=⟨_,List.getElem?_eq_getElem (by have:=Si.1; have:=hb.1; omega)⟩;have hg:=hb.2 j c t1 hc ht1;obtain ⟨gl,HS,aq1⟩:=Si.2 j _ _ EI hc;subst HS;have hco:=ayc c (List.mem_of_getElem? hc);have Yq:=hco.rb;have hcb:=hco.cb;refine aD pS (tV) (aN hs HW (λ ajh w8 hs=>have hs:=hs.enc (cs':=Flat.enc (⟨0,0,⟨none,0,0⟩⟩:cK)) rfl;aI (x:=(⟨c.aK,c.counts,gl⟩:cK)) hs pS rfl rfl (λ w9 hs=>aE (aA Ua (aB bL hs.p1.hb rfl (ey amt (C52 m.room _) ?_))))))
   rintro v43 pQ hh;obtain ⟨_,_,b52,rfl,bZ⟩:=hh.resolve_left (λ h=>by omega);have hs:=hs.made bZ;refine bE rfl (bE rfl ?_);refine ⟨λ t8 w'=>∃ tb,t8 = .pointer (some ⟨tb,0,none⟩)∧St w F [eG K tb m.room (qb c),cD ajh (Flat.enc (⟨c.aK,c.counts,gl⟩:cK)),cD p (jT {a with lk:=HA,ll:=Xa} m),bK Xa ps,iz (qa K m.room) ps (nf.take j),bK HA (List.replicate m.u.locks.toNat (-1:Int)),fU a.q a.ov a.fv m.mem] w',?_,?_⟩
   ·have hs:=hs.drew;refine aD pS hs.p1.At (aA wS (aB (v:=.int .i64 c.aK) bL hs.p1.hb rfl (aA Cw (aB (v:=.int .i64 c.counts) bL hs.p1.hb rfl ?_))));refine ⟨?_,?_⟩
    ·refine vK (0:Int) hs ee BI (by omega) (by omega) (by decide) (λ Vv sP hs=>?_);refine ⟨fP pS hs.p2.At,?_⟩;refine ⟨aG bL (hs.p2.hb.cell rfl),?_⟩;refine vK (0:Int) hs ee BI (by omega) (by omega) (by decide) (λ s_x53 vi hs=>?_);refine ⟨fP pS hs.p3.At,?_⟩;refine ⟨aG bL (hs.p3.hb.cell rfl),?_⟩;obtain ⟨ayd,rfl⟩:=(hs.p1).fQ;obtain ⟨Ol,rfl⟩:=(hs).fQ;refine pop (vR _ _ _ _ _ _ _ _ _ _ _ _) (lR hs (λ b_x55 vj hs=>?_));have hs:=hs.p9.p9.p9.p9.p9.p9.p7.p8.p9.p9;exact ⟨_,rfl,eG.shut (t:=qb c) aq1 hs⟩
    ·refine ⟨?_,?_⟩
     ·refine vK (0:Int) hs ee BI (by omega) (by omega) (by decide) (λ atj sd hs=>?_);refine ⟨fP pS hs.p2.At,?_⟩;refine ⟨aG bL (hs.p2.hb.cell rfl),?_⟩;refine vK (0:Int) hs ee BI (by omega) (by omega) (by decide) (λ atk vW hs=>?_);refine ⟨fP pS hs.p3.At,?_⟩;refine ⟨aG bL (hs.p3.hb.cell rfl),?_⟩;obtain ⟨aq2,rfl⟩:=(hs).fQ;obtain ⟨aq3,rfl⟩:=(hs.p1).fQ;refine pop (vR _ _ _ _ _ _ _ _ _ _ _ _) (lR hs (λ atl yM hs=>?_));have hs:=hs.p9.p9.p9.p9.p9.p9.p8.p8.p9.p9;exact ⟨_,rfl,eG.shut (t:=qb c) aq1 hs⟩
     ·trivial
   ·rintro _ Cd ⟨tb,rfl,hs⟩ oN;refine bG aeg hs (H':=λ _=>eG K tb m.room t1) (Φ:=λ _ _=>True) (λ F2 eO ew=>?_) ?_
    ·exact (C122 K tb m.room (qb c) t1 N F2 _ eO (λ w' hc=>hK w' (ew w' hc).aF) (I0 hco) hg).mono λ _ _ r=>r.mono λ _ _ h=>⟨trivial,h.2⟩
    rintro _ Il _ hs;refine aE (aA ke ?_);have vf:=(hs.p4).lg;refine aB qP hs.p2.hb rfl (bW ([(⟨tb⟩:Ptr)]) hs rY rfl rfl (eF rfl) (λ aq4 Jo hs=>?_));have ajZ:=(hs).fK;refine cN hs.p4 rY ajZ (by rw [List.length_take] at vf; simp; omega) (by decide) (λ af2 KA hs=>have hs:=hs.p1.drop;aE (aA ke (aV hs.p3 qP (eF rfl) ((hs).fK.one) (λ Mx hs=>?_))));intro GF;refine aO (by omega) ?_;have hs:=(((((St.DE (H:=qa K m.room) (p:=⟨tb⟩) (x:=t1) hs.p2.p4).p3).drop).p4).p4).p2;have hs:=hs.p4.p4;exact ⟨_,by omega,j+1,af2,ps++[⟨tb⟩],rfl,rfl,by omega,by rw [← gX (k:=j) ht1]; exact hs⟩
  ·have hs:=hs.p2.p2.p3.p4.p4;rw [List.take_of_length_le (by have:=hb.1; omega)] at hs;exact ⟨rfl,(eP.shut (m:=mK m nf) (a:={a with lk:=HA,ll:=Xa,ps:=ps}) ⟨hu.ln,hu.cl,hu.rc,hu.mem⟩ hs).mut⟩
def iI (m:gT) (q:ei):Option (List Int):=if q.kind=3∧q.t=0∧q.i=0∧m.fault=0 then jA m.mem q.cut else none
def yG (m:gT) (pR:List Int):gT:={m with mem:=yC m.mem pR,er:=m.er+1}
def Cl (N:Nat) (m:gT) (q:ei):Option (gT × dA × Int):=match iI m q with
 | some pR=>(sI N (qb m.u.recover)).map λ t=>(mK (yG m pR) [t],⟨15,0,0,An q.cut q.cut.length,0⟩,0)
 | none=>if (fc m).any (js q)=true then
   (if q.kind=2 then (m.l[q.t.toNat]?).map λ t=>(mr m t q,pN q.t (eh t.buf q.i),0) else (mD N m q.t).map λ r=>(r.1,r.2,0))
  else some (m,⟨0,0,0,0,0⟩,13)
section
variable {N:Nat} {m m2:gT} {q:ei} {ev:dA} {e:Int} {pR:List Int}
theorem qH (h:Cl N m q=some (m2,ev,e)) (hc:iI m q=some pR):∃ t,sI N (qb m.u.recover)=some t∧m2=mK (yG m pR) [t]∧ev=⟨15,0,0,An q.cut q.cut.length,0⟩∧e=0:=by
 unfold Cl at h; rw [hc] at h; dsimp only at h
 cases hg:sI N (qb m.u.recover) with
 | none=>rw [hg] at h; cases h
 | some t=>rw [hg] at h; cases h; exact ⟨t,rfl,rfl,rfl,rfl⟩
theorem ph (h:Cl N m q=some (m2,ev,e)) (hc:iI m q=none) (ha:¬ (fc m).any (js q)=true):m2=m∧ev=⟨0,0,0,0,0⟩∧e=13:=by
 unfold Cl at h; rw [hc] at h; dsimp only at h; rw [if_neg ha] at h
 cases h; exact ⟨rfl,rfl,rfl⟩
theorem pj {t:fM} (h:Cl N m q=some (m2,ev,e)) (hc:iI m q=none) (ha:(fc m).any (js q)=true) (hk:q.kind=2) (ht:m.l[q.t.toNat]? = some t):m2=mr m t q∧ev=pN q.t (eh t.buf q.i)∧e=0:=by
 unfold Cl at h; rw [hc] at h; dsimp only at h; rw [if_pos ha,if_pos hk,ht] at h
 cases h; exact ⟨rfl,rfl,rfl⟩
theorem m8 (h:Cl N m q=some (m2,ev,e)) (hc:iI m q=none) (ha:(fc m).any (js q)=true) (hk:¬ q.kind=2):mD N m q.t=some (m2,ev)∧e=0:=by
 unfold Cl at h; rw [hc] at h; dsimp only at h; rw [if_pos ha,if_neg hk] at h
 cases hs:mD N m q.t with
 | none=>rw [hs] at h; cases h
 | some r=>rw [hs] at h; cases h; exact ⟨rfl,rfl⟩
theorem wF {k:Nat} {x:ei} (h:x∈kT m k):∃ i t,i<k∧m.l[i]? = some t∧x∈tg m i t:=by
 unfold kT at h
 rw [List.mem_flatMap] at h
 obtain ⟨i,hi,hx⟩:=h
 cases ht:m.l[i]? with
 | none=>rw [ht] at hx; cases hx
 | some t=>rw [ht] at hx; exact ⟨i,t,List.mem_range.1 hi,ht,hx⟩
theorem LM {i:Nat} {t:fM} {x:ei} (h:x∈tg m i t):x.t=i:=by
 unfold tg at h
 rw [List.mem_append] at h
 rcases h with h | h
 ·split at h
  ·simp at h; rw [h]
  ·cases h
 ·rw [List.mem_map] at h; obtain ⟨_,_,rfl⟩:=h; rfl
theorem rE (h:(fc m).any (js q)=true):0≤q.t∧∃ t,m.l[q.t.toNat]? = some t:=by
 rw [List.any_eq_true] at h
 obtain ⟨x,hx,hs⟩:=h
 unfold fc at hx
 split at hx
 ·cases hx
 ·obtain ⟨i,t,_,ht,AM⟩:=wF hx
  have h1:=LM AM
  unfold js at hs
  simp only [Bool.and_eq_true,decide_eq_true_eq] at hs
  have:q.t=(i:Int):=by omega
  rw [this]; exact ⟨by omega,t,ht⟩
theorem oZ (h:rC m):(fc m).length≤1001000:=by
 unfold fc; split
 ·simp
 ·exact Nat.le_trans (wD h _) (Nat.mul_le_mul_right 1001 h.tl)
end
def Xb (m:Mem) (cut:List Int) (v:Value) (m2:Mem):Prop:=(jA m cut=none∧m2=m∧v = .int .i64 1)∨∃ pR,jA m cut=some pR∧m2=yC m pR∧v = .int .i64 0
theorem Sy {m:Mem} {cut:List Int} {v:Value} {p:Nat} {ov fv:Value} {F:Nat→Prop} {w w':World}
  (h:(jA m cut=none∧v = .int .i64 1∧qk F (fU p ov fv m) w w')∨∃ pR,jA m cut=some pR∧v = .int .i64 0∧qk F (fU p ov fv (yC m pR)) w w') :
  True∧qk F (tQ λ m2=>fact (Xb m cut v m2) (fU p ov fv m2)) w w':=by
 refine ⟨trivial,?_⟩
 rcases h with ⟨h1,h2,F',h3,h4,h5⟩ | ⟨pR,h1,h2,F',h3,h4,h5⟩
 ·exact ⟨F',⟨m,.inl ⟨h1,rfl,h2⟩,h3⟩,h4,h5⟩
 ·exact ⟨F',⟨yC m pR,.inr ⟨pR,h1,rfl,h2⟩,h3⟩,h4,h5⟩
set_option maxHeartbeats 1000000 in
theorem C15 (u:im) (uv:dL) (room:Int) (N:Nat) (nf:List fM) (w:World) (hu:cA.dr w uv u) (hz:UZ u) (hn:nt u=true→QM N u nf):CR 15 [Flat.val uv,.int .i64 room] w (λ v w'=>(nt u=false∧v = .tuple #[.pointer none,.int .i64 8]∧Ext w w')∨(nt u=true∧(room<1∨16<room)∧v = .tuple #[.pointer none,.int .i64 1]∧Ext w w')∨(nt u=true∧1≤room∧room≤16∧∃ K p,v = .tuple #[.pointer (some ⟨p,0,none⟩),.int .i64 0]∧lW (sep (eP K p (mK (mu u room) nf)) (eX K)) w w')):=by
 obtain ⟨iD,gG,eW,sr,fh,rfl,iE,jl,iY,jL,kR⟩:=hu;obtain ⟨dJ,rfl,ij⟩:=jL;have hs:=St.start w;refine agz _ _ _ _ ?_;unfold S15;refine dE hs (λ b_u2 w1 hs=>aD tD hs.At (aZ aun hs (C51 u _ _ ⟨iD,gG,eW,(⟨((u).recover).aK,((u).recover).counts,dJ⟩:cK),fh,rfl,(iE.ext hs.aF),(jl.ext hs.aF),(iY.ext hs.aF),⟨dJ,rfl,(ij.ext hs.aF)⟩,(kR.ext hs.aF)⟩ hz) (λ w2 he hs=>bY (aX (λ gO=>?_) (λ gO=>?_)))))
 ·exact .inl ⟨by simpa using gO,rfl,hs.drop.aF⟩
 ·have AL:=hn (by simpa using gO);refine ey amt (C52 room _) ?_;rintro v_x14 w3 aj0
  rcases aj0 with ⟨Yq,rfl,he⟩ | ⟨hr1,Gd,b52,rfl,bZ⟩
  ·have hs:=hs.ext he;refine bE rfl (bE rfl (cS (gD (by decide) ?_)));exact .inr (.inl ⟨by simpa using gO,Yq,rfl,hs.drop.aF⟩)
  ·have hs:=hs.made bZ;refine bE rfl (bE rfl (cS (fH (by decide) (aD tD hs.p1.At (ey auo (C53 u _ _ ⟨iD,gG,eW,(⟨((u).recover).aK,((u).recover).counts,dJ⟩:cK),fh,rfl,(iE.ext hs.aF),(jl.ext hs.aF),(iY.ext hs.aF),⟨dJ,rfl,(ij.ext hs.aF)⟩,(kR.ext hs.aF)⟩ hz) ?_)))));rintro _ w4 ⟨aye,rfl,bZ⟩;have hs:=hs.made bZ;refine pop (M4 _ _ _ _ _ _ _ _ _ _ _ _ _ _ _ _ _ _ _ _) (lR hs (λ BN w5 hs=>aA ml (aB en hs.p3.hb rfl ?_)));have aq5:=DL.flat (iE);refine aA o9 (aB (v:=.int .i64 ((u).stays)) bL hs.p3.hb rfl (aA wT (aB en hs.p3.hb rfl ?_)))
   have aq6:=DL.flat (jl);refine ey aup (C54 u.lines u.dC u.stays _ _ _ (aq5.ext hs.aF) (aq6.ext hs.aF) AL.len AL.l20 AL.st AL.ln) ?_;rintro v33 w6 ⟨q,ov,fv,rfl,bZ⟩;have hs:=((hs.made bZ).split).p1.split;refine bE rfl (bE rfl (aE (aA jD (aV hs.p3 rX (eF rfl) (rfl) (λ w7 hs=>aE (aA tG (aA rV (aB Fz hs.hb rfl ?_))))))));obtain ⟨s1,s2,s3,s4,s5,hsh,q1,q2,q3,q4,q5⟩:=(hs.p4).eX;obtain ⟨g4,hs4,_⟩:=q4;subst hs4;subst hsh;have hs:=hs.p4.p2.p4.p4.p4;obtain ⟨K,Oj,hs,ayf,ayg⟩:=W9 (room:=room) (sh:=(⟨s1,u.stays,s2,u.locks,s3,⟨u.recover.aK,u.recover.counts,g4⟩,s5⟩:dL)) hs
   refine bG amu hs (H':=λ _=>eP K BN (mK (mu u room) nf)) (Φ:=λ _ _=>True) (λ F2 eO ew=>?_) ?_
   ·exact (C55 K BN (mu u room) N u.threads nf _ Oj F2 _ eO (λ w' hc=>(ew w' hc).eX) ⟨hr1,Gd⟩ AL.lk (λ w' hc=>ayf w' (ew w' hc).eX) ayg AL.co AL.b hz.threads).mono λ _ _ r=>r.mono λ _ _ h=>⟨trivial,h.2⟩
   rintro _ w8 _ hs;have hs:=((hs.p2.drop.p2.drop).p1).p1;exact .inr (.inr ⟨by simpa using gO,hr1,Gd,K,BN,rfl,(St.join hs).fresh⟩)
set_option maxHeartbeats 2000000 in
theorem C17 (K:World→Prop) (p:Nat) (m:gT) (N:Nat) (q:ei) (gc:SV) (m2:gT) (ev:dA) (e:Int) (F:Nat→Prop) (w:World) (hF:(eP K p m).p w F) (hK:∀ w',iy F w w'→K w') (mq:rC m) (tn:MB m.mem 1000000) (hcb:0≤m.er∧m.er≤1000000) (ayh:Bs m.u.recover) (Mu:0≤m.u.locks∧m.u.locks≤1000) (As:∀ w',iy F w w'→eI (λ _=>True) w' (Flat.val gc) q.cut) (hql:q.cut.length≤1000) (hd:Cl N m q=some (m2,ev,e)):CR 17 [(.pointer (some ⟨p,0,none⟩)),Flat.val (⟨q.kind,q.t,q.i,gc⟩:dT)] w (λ v w'=>v = .tuple #[Flat.val ev,.int .i64 e]∧qk F (eP K p m2) w w'):=by
 have hs:=St.begin hF;obtain ⟨a,hu,hs⟩:=eP.open hs;have wE:=hs.p4.lg;refine agB _ _ _ _ ?_;unfold S17;refine dE (x:=(⟨q.kind,q.t,q.i,gc⟩:dT)) hs (λ wk w1 hs=>aN hs lB (λ Cf w2 hs=>?_));refine ⟨_,?_,λ _ _ h=>h⟩;refine aA pa (have hs:=hs.drew;aB (v:=.int .i64 q.kind) bL hs.p1.hb rfl (aH (aC (λ gu=>?_) (λ gu=>?_))))
 ·refine aA jC (aB (v:=.int .i64 q.t) bL hs.p1.hb rfl (aH (aC (λ kF=>?_) (λ kF=>?_))))
  ·refine aA wV (aB (v:=.int .i64 q.i) bL hs.p1.hb rfl (aH (aC (λ gd=>?_) (λ gd=>?_))))
   ·refine aE (aA nR (aB bL hs.p2.hb rfl (aH (aC (λ fR=>?_) (λ fR=>?_)))))
    ·refine aE (aA jD (aB rX hs.p2.hb rfl (aA nP (aB (v:=Flat.val (gc:SV)) en hs.p1.hb rfl (bG aus hs.p3 (H':=λ v=>tQ λ m2=>fact (Xb m.mem q.cut v m2) (fU a.q a.ov a.fv m2)) (Φ:=λ _ _=>True) (λ F2 eO ew=>?_) ?_)))))
     ·exact (C58 a.q a.ov a.fv m.mem F2 q.cut _ _ eO (λ w' hc=>hu.mem _ (hK w' (ew w' hc).aF)) mq.mem tn (λ w' hc=>As w' (ew w' hc).aF) hql).mono λ _ _ r=>r.mono λ _ _ h=>Sy h
     rintro v34 w3 _ Au;obtain ⟨m2c,Av⟩:=Au.eT
     clear Au
     obtain ⟨hcf,CK⟩:=Av.oA
     clear Av
     rcases hcf with ⟨him,rfl,rfl⟩ | ⟨pR,him,rfl,rfl⟩
     ·have hs:=CK;have CA:iI m q=none:=by unfold iI; rw [if_pos ⟨gu,kF,gd,fR⟩]; exact him
      refine aH ?_;intro fy;refine fH (by decide) (have hs:=eP.shut (m:=m) hu hs.p6.p6.p6.p3.p6;dB C8 hs (C16 K p m _ hs.has (hK _ hs.aF) (λ w2 e=>hK _ (hs.aF.then e)) mq) (λ x58 pQ bZ hs=>?_));have Wh:=hs.p3.At;have Km:n7 PG _ (.func (.func 60) [].toArray [.pointer (some ⟨wk,0,none⟩)].toArray) (λ _:ei=>True) (js q):=
 ⟨60,[],_,rfl,TQ,λ sx y w1 e1 LN _=>C60 y q sx wk (⟨q.kind,q.t,q.i,gc⟩:dT) w1 LN (Wh.ext e1) ⟨gc,rfl,DL.fp (As _ (hs.aF.then e1))⟩⟩
      refine aZ TR hs (C61 _ _ _ (λ _=>True) _ _ (hs).dl Km (λ _ _=>trivial) (by have:=oZ mq; omega)) (λ sP he hs=>bY (aX (λ kq=>?_) (λ kq=>?_)))
      ·refine pop (AZ) (aI (x:=(⟨0,0,0,0,0⟩:dA)) hs.p2 eY rfl rfl (λ vi hs=>aD eY hs.At ?_));have hs:=((((hs.drop)).drop).p1).drop;obtain ⟨rfl,rfl,rfl⟩:=ph hd CA (by simpa using kq);exact ⟨rfl,hs.mut⟩
      ·have qI:(fc m).any (js q)=true:=by simpa using kq
       obtain ⟨h0,t,ht⟩:=rE qI;refine aA pa (aB (v:=.int .i64 q.kind) bL hs.p3.hb rfl (aH (aC (λ m9=>?_) (λ m9=>?_))))
       ·refine aD mQ hs.p3.At ?_;obtain ⟨rfl,rfl,rfl⟩:=pj hd CA qI m9 ht;have hs:=hs.p1;refine bG TS hs (H':=λ _=>eP K p (mr m t q)) (Φ:=λ v _=>v=Flat.val (pN q.t (eh t.buf q.i))) (λ F2 eO ew=>?_) ?_
        ·exact C62 K p m q (⟨q.kind,q.t,q.i,gc⟩:dT) t F2 _ eO (λ w' hc=>hK w' (ew w' hc).aF) mq tn ⟨gc,rfl,DL.fp (As _ hs.aF)⟩ h0 ht
        rintro _ vj rfl hs;refine aI (x:=(pN q.t (eh t.buf q.i))) hs.p2 eY rfl rfl (λ sd hs=>aD eY hs.At ?_);have hs:=(((hs.drop.p1).drop).p1).drop;exact ⟨rfl,hs.mut⟩
       ·refine aA jC (aB (v:=.int .i64 q.t) bL hs.p3.hb rfl ?_);obtain ⟨sB,rfl⟩:=m8 hd CA qI m9;have hs:=hs.p1;refine bG TT hs (H':=λ _=>eP K p m2) (Φ:=λ v _=>v=Flat.val ev) (λ F2 eO ew=>?_) ?_
        ·exact C63 K p m N q.t t m2 ev F2 _ eO (λ w' hc=>hK w' (ew w' hc).aF) mq tn h0 ht sB
        rintro _ vW rfl hs;refine aI (x:=ev) hs.p2 eY rfl rfl (λ yM hs=>aD eY hs.At ?_);have hs:=(((hs.drop.p1).drop).p1).drop;exact ⟨rfl,hs.mut⟩
     ·have hs:=CK;have CA:iI m q=some pR:=by unfold iI; rw [if_pos ⟨gu,kF,gd,fR⟩]; exact him
      refine aH ?_;intro fy;refine gD (by decide) (aE (aA Dl (aB bL hs.p3.hb rfl (aO (by omega) (aE (aA Dl (aV hs.p3 bL (eF rfl) (rfl) (λ w5 hs=>aE (aA tG (aA zn (uK (⟨m.u.recover.aK,m.u.recover.counts,a.rcl⟩:cK) pS hs.hb rfl (bW ([(⟨m.u.recover.aK,m.u.recover.counts,a.rcl⟩:cK)]) hs AY rfl rfl (eF rfl) (λ Vv w6 hs=>?_)))))))))))));have hs:=eP.shut (m:=(yG m pR)) ⟨hu.ln,hu.cl,hu.rc,hu.mem⟩ hs.p7.p7.p7.p5.p5;obtain ⟨t2,hg,rfl,rfl,rfl⟩:=qH hd CA;have hs:=hs.p1.p1;refine bG amu hs (H':=λ _=>eP K p (mK (yG m pR) [t2])) (Φ:=λ _ _=>True) (λ F2 eO ew=>?_) ?_
      ·exact (C55 K p (yG m pR) N [m.u.recover] [t2] _ [(⟨m.u.recover.aK,m.u.recover.counts,a.rcl⟩:cK)] F2 _ eO (λ w' hc=>hK w' (ew w' hc).aF) mq.rm Mu (λ w' hc=>(ew w' hc).fK) ⟨rfl,λ j cv c h1 h2=>by cases j with | zero=>(simp at h1 h2; subst h1 h2; exact ⟨a.rcl,rfl,hu.rc⟩) | succ j=>simp at h1⟩ (by simpa using ayh) ⟨rfl,λ j c t h1 h2=>by cases j with | zero=>(simp at h1 h2; subst h1 h2; exact hg) | succ j=>simp at h1⟩ (by simp)).mono λ _ _ r=>r.mono λ _ _ h=>⟨trivial,h.2⟩
      rintro _ w7 _ hs;refine aA nP (aB (v:=Flat.val (gc:SV)) en hs.p3.hb rfl (aZ aut hs (C59 _ q.cut _ (As _ hs.aF) (by omega)) (λ w8 he hs=>pop (tP _ _) (aI (x:=(⟨15,0,0,(An q.cut q.cut.length),0⟩:dA)) hs.p2 eY rfl rfl (λ w9 hs=>aD eY hs.At ?_)))));have hs:=(((hs.drop.p1).drop).p1).drop;exact ⟨rfl,hs.mut⟩
    ·have CA:iI m q=none:=by unfold iI; rw [if_neg (by exact λ h=>fR h.2.2.2)]
     intro fy;refine fC (have hs:=eP.shut (m:=m) hu hs.p6.p6.p6.p6.p6;dB C8 hs (C16 K p m _ hs.has (hK _ hs.aF) (λ w2 e=>hK _ (hs.aF.then e)) mq) (λ x58 pQ bZ hs=>?_));have Wh:=hs.p3.At;have Km:n7 PG _ (.func (.func 60) [].toArray [.pointer (some ⟨wk,0,none⟩)].toArray) (λ _:ei=>True) (js q):=
 ⟨60,[],_,rfl,TQ,λ sx y w1 e1 LN _=>C60 y q sx wk (⟨q.kind,q.t,q.i,gc⟩:dT) w1 LN (Wh.ext e1) ⟨gc,rfl,DL.fp (As _ (hs.aF.then e1))⟩⟩
     refine aZ TR hs (C61 _ _ _ (λ _=>True) _ _ (hs).dl Km (λ _ _=>trivial) (by have:=oZ mq; omega)) (λ sP he hs=>bY (aX (λ kq=>?_) (λ kq=>?_)))
     ·refine pop (AZ) (aI (x:=(⟨0,0,0,0,0⟩:dA)) hs.p2 eY rfl rfl (λ vi hs=>aD eY hs.At ?_));have hs:=((((hs.drop)).drop).p1).drop;obtain ⟨rfl,rfl,rfl⟩:=ph hd CA (by simpa using kq);exact ⟨rfl,hs.mut⟩
     ·have qI:(fc m).any (js q)=true:=by simpa using kq
      obtain ⟨h0,t,ht⟩:=rE qI;refine aA pa (aB (v:=.int .i64 q.kind) bL hs.p3.hb rfl (aH (aC (λ m9=>?_) (λ m9=>?_))))
      ·refine aD mQ hs.p3.At ?_;obtain ⟨rfl,rfl,rfl⟩:=pj hd CA qI m9 ht;have hs:=hs.p1;refine bG TS hs (H':=λ _=>eP K p (mr m t q)) (Φ:=λ v _=>v=Flat.val (pN q.t (eh t.buf q.i))) (λ F2 eO ew=>?_) ?_
       ·exact C62 K p m q (⟨q.kind,q.t,q.i,gc⟩:dT) t F2 _ eO (λ w' hc=>hK w' (ew w' hc).aF) mq tn ⟨gc,rfl,DL.fp (As _ hs.aF)⟩ h0 ht
       rintro _ vj rfl hs;refine aI (x:=(pN q.t (eh t.buf q.i))) hs.p2 eY rfl rfl (λ sd hs=>aD eY hs.At ?_);have hs:=(((hs.drop.p1).drop).p1).drop;exact ⟨rfl,hs.mut⟩
      ·refine aA jC (aB (v:=.int .i64 q.t) bL hs.p3.hb rfl ?_);obtain ⟨sB,rfl⟩:=m8 hd CA qI m9;have hs:=hs.p1;refine bG TT hs (H':=λ _=>eP K p m2) (Φ:=λ v _=>v=Flat.val ev) (λ F2 eO ew=>?_) ?_
       ·exact C63 K p m N q.t t m2 ev F2 _ eO (λ w' hc=>hK w' (ew w' hc).aF) mq tn h0 ht sB
       rintro _ vW rfl hs;refine aI (x:=ev) hs.p2 eY rfl rfl (λ yM hs=>aD eY hs.At ?_);have hs:=(((hs.drop.p1).drop).p1).drop;exact ⟨rfl,hs.mut⟩
   ·have CA:iI m q=none:=by unfold iI; rw [if_neg (by exact λ h=>gd h.2.2.1)]
    intro fy;refine fC (have hs:=eP.shut (m:=m) hu hs.p6.p6.p6.p6.p6;dB C8 hs (C16 K p m _ hs.has (hK _ hs.aF) (λ w2 e=>hK _ (hs.aF.then e)) mq) (λ x58 pQ bZ hs=>?_));have Wh:=hs.p3.At;have Km:n7 PG _ (.func (.func 60) [].toArray [.pointer (some ⟨wk,0,none⟩)].toArray) (λ _:ei=>True) (js q):=
 ⟨60,[],_,rfl,TQ,λ sx y w1 e1 LN _=>C60 y q sx wk (⟨q.kind,q.t,q.i,gc⟩:dT) w1 LN (Wh.ext e1) ⟨gc,rfl,DL.fp (As _ (hs.aF.then e1))⟩⟩
    refine aZ TR hs (C61 _ _ _ (λ _=>True) _ _ (hs).dl Km (λ _ _=>trivial) (by have:=oZ mq; omega)) (λ sP he hs=>bY (aX (λ kq=>?_) (λ kq=>?_)))
    ·refine pop (AZ) (aI (x:=(⟨0,0,0,0,0⟩:dA)) hs.p2 eY rfl rfl (λ vi hs=>aD eY hs.At ?_));have hs:=((((hs.drop)).drop).p1).drop;obtain ⟨rfl,rfl,rfl⟩:=ph hd CA (by simpa using kq);exact ⟨rfl,hs.mut⟩
    ·have qI:(fc m).any (js q)=true:=by simpa using kq
     obtain ⟨h0,t,ht⟩:=rE qI;refine aA pa (aB (v:=.int .i64 q.kind) bL hs.p3.hb rfl (aH (aC (λ m9=>?_) (λ m9=>?_))))
     ·refine aD mQ hs.p3.At ?_;obtain ⟨rfl,rfl,rfl⟩:=pj hd CA qI m9 ht;have hs:=hs.p1;refine bG TS hs (H':=λ _=>eP K p (mr m t q)) (Φ:=λ v _=>v=Flat.val (pN q.t (eh t.buf q.i))) (λ F2 eO ew=>?_) ?_
      ·exact C62 K p m q (⟨q.kind,q.t,q.i,gc⟩:dT) t F2 _ eO (λ w' hc=>hK w' (ew w' hc).aF) mq tn ⟨gc,rfl,DL.fp (As _ hs.aF)⟩ h0 ht
      rintro _ vj rfl hs;refine aI (x:=(pN q.t (eh t.buf q.i))) hs.p2 eY rfl rfl (λ sd hs=>aD eY hs.At ?_);have hs:=(((hs.drop.p1).drop).p1).drop;exact ⟨rfl,hs.mut⟩
     ·refine aA jC (aB (v:=.int .i64 q.t) bL hs.p3.hb rfl ?_);obtain ⟨sB,rfl⟩:=m8 hd CA qI m9;have hs:=hs.p1;refine bG TT hs (H':=λ _=>eP K p m2) (Φ:=λ v _=>v=Flat.val ev) (λ F2 eO ew=>?_) ?_
      ·exact C63 K p m N q.t t m2 ev F2 _ eO (λ w' hc=>hK w' (ew w' hc).aF) mq tn h0 ht sB
      rintro _ vW rfl hs;refine aI (x:=ev) hs.p2 eY rfl rfl (λ yM hs=>aD eY hs.At ?_);have hs:=(((hs.drop.p1).drop).p1).drop;exact ⟨rfl,hs.mut⟩
  ·have CA:iI m q=none:=by unfold iI; rw [if_neg (by exact λ h=>kF h.2.1)]
   intro fy;refine fC (have hs:=eP.shut (m:=m) hu hs.p6.p6.p6.p6.p6;dB C8 hs (C16 K p m _ hs.has (hK _ hs.aF) (λ w2 e=>hK _ (hs.aF.then e)) mq) (λ x58 pQ bZ hs=>?_));have Wh:=hs.p3.At;have Km:n7 PG _ (.func (.func 60) [].toArray [.pointer (some ⟨wk,0,none⟩)].toArray) (λ _:ei=>True) (js q):=
 ⟨60,[],_,rfl,TQ,λ sx y w1 e1 LN _=>C60 y q sx wk (⟨q.kind,q.t,q.i,gc⟩:dT) w1 LN (Wh.ext e1) ⟨gc,rfl,DL.fp (As _ (hs.aF.then e1))⟩⟩
   refine aZ TR hs (C61 _ _ _ (λ _=>True) _ _ (hs).dl Km (λ _ _=>trivial) (by have:=oZ mq; omega)) (λ sP he hs=>bY (aX (λ kq=>?_) (λ kq=>?_)))
   ·refine pop (AZ) (aI (x:=(⟨0,0,0,0,0⟩:dA)) hs.p2 eY rfl rfl (λ vi hs=>aD eY hs.At ?_));have hs:=((((hs.drop)).drop).p1).drop;obtain ⟨rfl,rfl,rfl⟩:=ph hd CA (by simpa using kq);exact ⟨rfl,hs.mut⟩
   ·have qI:(fc m).any (js q)=true:=by simpa using kq
    obtain ⟨h0,t,ht⟩:=rE qI;refine aA pa (aB (v:=.int .i64 q.kind) bL hs.p3.hb rfl (aH (aC (λ m9=>?_) (λ m9=>?_))))
    ·refine aD mQ hs.p3.At ?_;obtain ⟨rfl,rfl,rfl⟩:=pj hd CA qI m9 ht;have hs:=hs.p1;refine bG TS hs (H':=λ _=>eP K p (mr m t q)) (Φ:=λ v _=>v=Flat.val (pN q.t (eh t.buf q.i))) (λ F2 eO ew=>?_) ?_
     ·exact C62 K p m q (⟨q.kind,q.t,q.i,gc⟩:dT) t F2 _ eO (λ w' hc=>hK w' (ew w' hc).aF) mq tn ⟨gc,rfl,DL.fp (As _ hs.aF)⟩ h0 ht
     rintro _ vj rfl hs;refine aI (x:=(pN q.t (eh t.buf q.i))) hs.p2 eY rfl rfl (λ sd hs=>aD eY hs.At ?_);have hs:=(((hs.drop.p1).drop).p1).drop;exact ⟨rfl,hs.mut⟩
    ·refine aA jC (aB (v:=.int .i64 q.t) bL hs.p3.hb rfl ?_);obtain ⟨sB,rfl⟩:=m8 hd CA qI m9;have hs:=hs.p1;refine bG TT hs (H':=λ _=>eP K p m2) (Φ:=λ v _=>v=Flat.val ev) (λ F2 eO ew=>?_) ?_
     ·exact C63 K p m N q.t t m2 ev F2 _ eO (λ w' hc=>hK w' (ew w' hc).aF) mq tn h0 ht sB
     rintro _ vW rfl hs;refine aI (x:=ev) hs.p2 eY rfl rfl (λ yM hs=>aD eY hs.At ?_);have hs:=(((hs.drop.p1).drop).p1).drop;exact ⟨rfl,hs.mut⟩
 ·have CA:iI m q=none:=by unfold iI; rw [if_neg (by exact λ h=>gu h.1)]
  intro fy;refine fC (have hs:=eP.shut (m:=m) hu hs.p6.p6.p6.p6.p6;dB C8 hs (C16 K p m _ hs.has (hK _ hs.aF) (λ w2 e=>hK _ (hs.aF.then e)) mq) (λ x58 pQ bZ hs=>?_));have Wh:=hs.p3.At;have Km:n7 PG _ (.func (.func 60) [].toArray [.pointer (some ⟨wk,0,none⟩)].toArray) (λ _:ei=>True) (js q):=
 ⟨60,[],_,rfl,TQ,λ sx y w1 e1 LN _=>C60 y q sx wk (⟨q.kind,q.t,q.i,gc⟩:dT) w1 LN (Wh.ext e1) ⟨gc,rfl,DL.fp (As _ (hs.aF.then e1))⟩⟩
  refine aZ TR hs (C61 _ _ _ (λ _=>True) _ _ (hs).dl Km (λ _ _=>trivial) (by have:=oZ mq; omega)) (λ sP he hs=>bY (aX (λ kq=>?_) (λ kq=>?_)))
  ·refine pop (AZ) (aI (x:=(⟨0,0,0,0,0⟩:dA)) hs.p2 eY rfl rfl (λ vi hs=>aD eY hs.At ?_));have hs:=((((hs.drop)).drop).p1).drop;obtain ⟨rfl,rfl,rfl⟩:=ph hd CA (by simpa using kq);exact ⟨rfl,hs.mut⟩
  ·have qI:(fc m).any (js q)=true:=by simpa using kq
   obtain ⟨h0,t,ht⟩:=rE qI;refine aA pa (aB (v:=.int .i64 q.kind) bL hs.p3.hb rfl (aH (aC (λ m9=>?_) (λ m9=>?_))))
   ·refine aD mQ hs.p3.At ?_;obtain ⟨rfl,rfl,rfl⟩:=pj hd CA qI m9 ht;have hs:=hs.p1;refine bG TS hs (H':=λ _=>eP K p (mr m t q)) (Φ:=λ v _=>v=Flat.val (pN q.t (eh t.buf q.i))) (λ F2 eO ew=>?_) ?_
    ·exact C62 K p m q (⟨q.kind,q.t,q.i,gc⟩:dT) t F2 _ eO (λ w' hc=>hK w' (ew w' hc).aF) mq tn ⟨gc,rfl,DL.fp (As _ hs.aF)⟩ h0 ht
    rintro _ vj rfl hs;refine aI (x:=(pN q.t (eh t.buf q.i))) hs.p2 eY rfl rfl (λ sd hs=>aD eY hs.At ?_);have hs:=(((hs.drop.p1).drop).p1).drop;exact ⟨rfl,hs.mut⟩
   ·refine aA jC (aB (v:=.int .i64 q.t) bL hs.p3.hb rfl ?_);obtain ⟨sB,rfl⟩:=m8 hd CA qI m9;have hs:=hs.p1;refine bG TT hs (H':=λ _=>eP K p m2) (Φ:=λ v _=>v=Flat.val ev) (λ F2 eO ew=>?_) ?_
    ·exact C63 K p m N q.t t m2 ev F2 _ eO (λ w' hc=>hK w' (ew w' hc).aF) mq tn h0 ht sB
    rintro _ vW rfl hs;refine aI (x:=ev) hs.p2 eY rfl rfl (λ yM hs=>aD eY hs.At ?_);have hs:=(((hs.drop.p1).drop).p1).drop;exact ⟨rfl,hs.mut⟩
def B2 (t:fM):Bool:=(gR t).isNone && decide (t.buf.length=0)
def ur (m:gT):Bool:=decide (m.fault=0) && !(List.range m.l.length).any λ i=>match m.l[i]? with | some t=>!B2 t | none=>false
def yH (m:gT):Bool:=decide (m.fault=0) && (!ur m && decide (((fc m).length:Int)=0))
def qz (m:gT):iB:=⟨m.er,m.fault,m.mJ,ur m,yH m⟩
def yI (m:gT) (l:List nk):Bool:=decide ((runM l (m.mem.l.take m.u.stays.toNat)).2=0) && decide ((runM l (m.mem.l.take m.u.stays.toNat)).1≠0)
def CL (m:gT):List Bool:=m.u.cC.map (yI m)
theorem tz.ext {w w':World} {b:Nat} {cs:List Value} (h:tz w b cs) (e:Ext w w'):tz w' b cs:=h.of_eq (e.cD b h.lt λ h=>h)
theorem Om {a:MA} {m:gT} (h1:rN a.lk=true) (h2:rN a.ll=true):∀ v∈jT a m,rN v=true:=by
 intro v hv
 simp only [List.mem_cons,List.not_mem_nil,or_false] at hv
 rcases hv with rfl | rfl | rfl | rfl | rfl | rfl | rfl | rfl | rfl | rfl | rfl | rfl | rfl | rfl | rfl | rfl <;> first | rfl | exact h1 | exact h2
theorem On {bp:Nat} {c:fm} {gl rg cn:Value} {x f e g:Int} (h1:rN gl=true) (h2:rN rg=true) (h3:rN cn=true) :
  ∀ v∈[Value.pointer (some ⟨bp,0,none⟩),.int .i64 c.aK,.int .i64 c.counts,gl,.int .i64 x,rg,cn,.int .i64 f,.int .i64 e,.int .i64 g],rN v=true:=by
 intro v hv
 simp only [List.mem_cons,List.not_mem_nil,or_false] at hv
 rcases hv with rfl | rfl | rfl | rfl | rfl | rfl | rfl | rfl | rfl | rfl <;> first | rfl | exact h1 | exact h2 | exact h3
theorem Ha {n k:Nat} (h:k<n):(List.range n)[k]? = some k:=List.getElem?_range h
theorem C64 (K:World→Prop) (p:Nat) (room:Int) (t:fM) (w:World) (hh:Has (eG K p room t) w) (vA:∀ w',Ext w w'→K w') (oB:G4 t):CR 64 [(.pointer (some ⟨p,0,none⟩))] w (λ v w'=>v = .bool (B2 t)∧Ext w w'):=by
 obtain ⟨bp,gl,rg,cn,_,pZ,hB,BR,hcn⟩:=eG.rd hh;have ct0:=pZ.cell (o:=0) rfl;have hs:=St.start w;refine ahf _ _ _ ?_;unfold S64;refine ey YM (C65 K p room t _ (hh.ext hs.aF) (vA _ hs.aF) oB) ?_;rintro v_x7 w1 aq7
 rcases aq7 with ⟨vp,rfl,he⟩ | ⟨x,xv,vp,hxv,rfl,he⟩
 ·have hs:=hs.ext he;refine bE rfl (bE rfl (aN hs mn (λ KZ w2 hs=>have hs:=hs.enc (cs':=Flat.enc (⟨0,0,0,⟨none,0,0⟩,⟨none,0,0⟩,0⟩:bU)) rfl;aI (x:=(⟨0,0,0,⟨none,0,0⟩,⟨none,0,0⟩,0⟩:bU)) hs lG rfl rfl (λ w3 hs=>?_))));refine ⟨_,?_,λ _ _ h=>h⟩;refine bY (nN (aZ ahr hs (C66 K p room t _ (hh.ext hs.aF) oB.bl) (λ w4 he hs=>?_)));intro fy;refine ⟨vb ?_,by first | exact hs.aF | exact hs.drop.aF⟩;unfold B2;rw [vp]
  rfl
 ·have hs:=hs.ext he;obtain ⟨ge,gf,rfl,_,_⟩:=hxv _ (vA _ hs.aF);refine bE rfl (bE rfl (aN hs mn (λ KZ w2 hs=>have hs:=hs.enc (cs':=Flat.enc (⟨0,0,0,⟨none,0,0⟩,⟨none,0,0⟩,0⟩:bU)) rfl;aI (x:=(⟨x.kind,x.a,x.b,ge,gf,x.to⟩:bU)) hs lG rfl rfl (λ w3 hs=>?_))));refine ⟨_,?_,λ _ _ h=>h⟩;refine bY (fC ?_);intro fy;refine ⟨vb ?_,by first | exact hs.aF | exact hs.drop.aF⟩;unfold B2;rw [vp]
  rfl
theorem C68 (K:World→Prop) (p:Nat) (room:Int) (t:fM) (b:Nat) (w:World) (hh:Has (eG K p room t) w) (vA:∀ w',Ext w w'→K w') (oB:G4 t) (hc:Cell w b 0 (Oi 64)):CR 68 [(.pointer (some ⟨p,0,none⟩)),(.pointer (some ⟨b,0,none⟩))] w (λ v w'=>v = .bool (!B2 t)∧Ext w w'):=by
 have hs:=St.start w;refine ahj _ _ _ _ ?_;unfold S68;refine cG aeJ (hc.ext hs.aF) (ga (first:=[]) (cap:=[]) auu (C64 K p room t _ (hh.ext hs.aF) (λ w2 e=>vA _ (Ext.trans hs.aF e)) oB) ?_);rintro _ w1 ⟨rfl,he⟩;have hs:=hs.ext he;refine bY ?_;exact ⟨rfl,hs.aF⟩
theorem C136 (sv:Value) (ps:List Ptr) (g0:Nat) (first cap:List Value) (g:Nat→Bool) (w:World) (hL:eI (λ _=>True) w sv ps) (vf:Plain PG g0) (lQ:∀ (i:Nat) (s:Ptr) (w1:World),ps[i]? = some s→Ext w w1→Calls PG g0 (first++[Flat.val s]++cap).toArray w1 (qg λ v w2=>v = .bool (g i)∧Ext w1 w2)) (hn:ps.length≤1073741824):CR 136 [sv,(.func (.func g0) first.toArray cap.toArray)] w (λ v w'=>v = .int .i64 (uN g (List.range ps.length))∧Ext w w'):=by
 have hs:=St.start w;refine Zo _ _ _ _ ?_;unfold S136;refine aJ rY (hL.ext hs.aF) ?_;refine ⟨λ m x w1=>∃ k:Nat,x = .int .i64 (k:Int)∧m=ps.length - k∧k≤ps.length∧(∀ y∈(List.range ps.length).take k,g y=false)∧St w bD [] w1,⟨_,0,rfl,rfl,Nat.zero_le _,by simp,hs⟩,?_⟩;rintro m _ w1 ⟨k,rfl,rfl,hk,fS,hs⟩ fy;refine aR (aC (λ gu=>?_) (λ gu=>?_))
 ·obtain ⟨jj,dD⟩:=gx (ps) (i:=((k:Int)).toNat) (by omega);refine aQ rY hL (by omega) dD (λ _ iN=>aD BJ (iN.ext hs.aF) (ga vf (lQ k jj w1 dD hs.aF) ?_));rintro _ w2 ⟨rfl,he⟩;have hs:=hs.ext he;refine aX (λ eA=>?_) (λ eA=>?_)
  ·exact ⟨congrArg (Value.int .i64) (pd fS (Ha (by omega)) eA).symm,hs.aF⟩
  ·refine aO (by omega) ?_;exact ⟨_,by omega,k+1,rfl,rfl,by omega,eC fS (Ha (by omega)) eA,hs⟩
 ·exact ⟨congrArg (Value.int .i64) (ko (by rw [List.take_of_length_le (by rw [List.length_range]; omega)] at fS; exact fS)).symm,hs.aF⟩
theorem C67 (sv:Value) (ps:List Ptr) (g0:Nat) (first cap:List Value) (g:Nat→Bool) (w:World) (hL:eI (λ _=>True) w sv ps) (vf:Plain PG g0) (lQ:∀ (i:Nat) (s:Ptr) (w1:World),ps[i]? = some s→Ext w w1→Calls PG g0 (first++[Flat.val s]++cap).toArray w1 (qg λ v w2=>v = .bool (g i)∧Ext w1 w2)) (hn:ps.length≤1073741824):CR 67 [sv,(.func (.func g0) first.toArray cap.toArray)] w (λ v w'=>v = .bool ((List.range ps.length).any g)∧Ext w w'):=by
 have hs:=St.start w;refine ahi _ _ _ _ ?_;unfold S67;refine aZ amO hs (C136 _ ps g0 first cap g _ (hL.ext hs.aF) vf (λ i s2 w2 h e=>lQ i s2 w2 h (Ext.trans hs.aF e)) (by omega)) (λ w1 he hs=>dG ?_);exact ⟨vb (n8 _ _),hs.aF⟩
theorem C18 (K:World→Prop) (p:Nat) (m:gT) (w:World) (hm:Has (eP K p m) w) (hw:K w) (vA:∀ w',Ext w w'→K w') (mq:rC m):CR 18 [(.pointer (some ⟨p,0,none⟩))] w (λ v w'=>v=Flat.val (qz m)∧Ext w w'):=by
 obtain ⟨a,hr⟩:=eP.rd hm hw;have cm8:=hr.b.cell (o:=8) rfl;have cm0:=hr.b.cell (o:=0) rfl;have Yp:=hr.b.cell (o:=1) rfl;have cm3:=hr.b.cell (o:=3) rfl;have cm9:=hr.b.cell (o:=9) rfl;have Ck:=hr.b.cell (o:=10) rfl;have EX:=hr.b.cell (o:=11) rfl;have Bt:=hr.b.cell (o:=12) rfl;have FQ:=hr.b.cell (o:=13) rfl;have Al:=hr.b.cell (o:=14) rfl;have FR:=hr.b.cell (o:=15) rfl;have hs:=St.start w;refine agC _ _ _ ?_;unfold S18;refine aN hs HZ (λ lY w1 hs=>yh hs abd rfl (λ I1 w2 hs=>aV hs aeJ (eF rfl) (rfl) (λ w3 hs=>aE (aA Dl (have hs:=hs.drew;cG bL (FQ.ext hs.aF) (aE (aA nR (cG bL (Al.ext hs.aF) (aE (aA Dm (cG bL (FR.ext hs.aF) (pop (Ki _ _ _) ?_))))))))))))
 refine aN hs HZ (λ aq8 w4 hs=>?_);refine ⟨aG bL (FQ.ext hs.aF),?_⟩;refine ⟨aG bL (Al.ext hs.aF),?_⟩;refine ⟨aG bL (FR.ext hs.aF),?_⟩;refine aI (x:=(⟨m.er,m.fault,m.mJ,false,false⟩:iB)) hs J7 rfl rfl (λ w5 hs=>?_);refine ⟨λ w'=>St w bD [cD aq8 (Flat.enc (⟨m.er,m.fault,m.mJ,ur m,false⟩:iB)),cD I1 [Oi 64],cD lY (Flat.enc (⟨0,0,0,false,false⟩:iB))] w',?_,?_⟩
 ·refine aE (aA nR (cG bL (Al.ext hs.aF) (aH (aC (λ iM=>?_) (λ iM=>?_)))))
  ·refine aE (aA ke (cG qP (Bt.ext hs.aF) ?_));refine aZ auv hs (C67 _ a.ps 68 [] [.pointer (some ⟨I1,0,none⟩)] (λ i=>match m.l[i]? with | some t=>!B2 t | none=>false) _ (hr.ll.ext hs.aF) auw (λ i s2 w2 h e=>by
  obtain ⟨t,ht⟩:∃ t,m.l[i]? = some t:=⟨_,List.getElem?_eq_getElem (by have:=(List.getElem?_eq_some_iff.1 h).1; have:=hr.len; omega)⟩;rw [ht]
  exact C68 K s2.b m.room t I1 w2 ((hr.th i s2 t h ht).ext (Ext.trans hs.aF e)) (λ w3 e3=>vA _ (Ext.trans (Ext.trans hs.aF e) e3)) (mq.th t (List.mem_of_getElem? ht)) ((hs.p1.hb.cell rfl).ext e)) (by have:=hr.len; have:=mq.tl; omega)) (λ w6 he hs=>?_)
   refine bY (aA HX (aV hs Ti (eF rfl) (rfl) (λ w7 hs=>?_)));have hs:=hs.enc (cs':=Flat.enc ({ (⟨m.er,m.fault,m.mJ,false,false⟩:iB) with done:=(!((List.range a.ps.length).any (λ i=>match m.l[i]? with | some t=>!B2 t | none=>false)))}:iB)) rfl;have hs:=hs.p2.p2.p2;have hdm:ur m = !((List.range a.ps.length).any (λ i=>match m.l[i]? with | some t=>!B2 t | none=>false)):=by unfold ur; rw [decide_eq_true iM,hr.len]; rfl
   rw [hdm];exact hs
  ·refine aA HX (aV hs Ti (eF rfl) (rfl) (λ w8 hs=>?_));have hs:=hs.enc (cs':=Flat.enc ({ (⟨m.er,m.fault,m.mJ,false,false⟩:iB) with done:=false}:iB)) rfl;have hs:=hs.p2.p2.p2;have hdm:ur m=false:=by unfold ur; rw [decide_eq_false iM]; rfl
   rw [hdm];exact hs
 ·intro w9 hs fy;refine ⟨λ w'=>St w bD [cD aq8 (Flat.enc (qz m)),cD lY (Flat.enc (⟨0,0,0,false,false⟩:iB))] w',?_,?_⟩
  ·refine aE (aA nR (cG bL (Al.ext hs.aF) (aH (aC (λ tU=>?_) (λ tU=>?_)))))
   ·refine aA HX (aB (v:=.bool (((⟨m.er,m.fault,m.mJ,ur m,false⟩:iB)).done)) Ti hs.hb rfl (bY (aX (λ jX=>?_) (λ jX=>?_))))
    ·refine dB C8 hs (C16 K p m _ (hm.ext hs.aF) (vA _ hs.aF) (λ w2 e=>vA _ (Ext.trans hs.aF e)) mq) (λ x45 pQ bZ hs=>?_);obtain ⟨ayl,aj1,aj2,_⟩:=(hs).dl;refine aJ mG aj1 ?_;rw [aj2];refine aH (aA HY (aV hs.p1 Ti (eF rfl) (rfl) (λ sP hs=>?_)));have hs:=hs.enc (cs':=Flat.enc ({ (⟨m.er,m.fault,m.mJ,ur m,false⟩:iB) with stuck:=(decide (((fc m).length:Int)=0))}:iB)) rfl;have hs:=((hs.p1.drop.p1.drop).p1).p1;have hsm:yH m=(decide (((fc m).length:Int)=0)):=by unfold yH; rw [decide_eq_true tU,show ur m=false from by simpa using jX]; rfl
     unfold qz;rw [hsm];exact hs
    ·refine aA HY (aV hs Ti (eF rfl) (rfl) (λ vi hs=>?_));have hs:=hs.enc (cs':=Flat.enc ({ (⟨m.er,m.fault,m.mJ,ur m,false⟩:iB) with stuck:=false}:iB)) rfl;have hs:=(hs.p1.drop.p1).p1;have hsm:yH m=false:=by unfold yH; rw [show ur m=true from by simpa using jX]; simp
     unfold qz;rw [hsm];exact hs
   ·refine aA HY (aV hs Ti (eF rfl) (rfl) (λ vj hs=>?_));have hs:=hs.enc (cs':=Flat.enc ({ (⟨m.er,m.fault,m.mJ,ur m,false⟩:iB) with stuck:=false}:iB)) rfl;have hs:=(hs.p1.drop.p1).p1;have hsm:yH m=false:=by unfold yH; rw [decide_eq_false tU]; rfl
    unfold qz;rw [hsm];exact hs
  ·intro sd hs jw;refine aD J7 hs.At (aI (x:=(qz m)) hs.p1 J7 rfl rfl (λ vW hs=>aD J7 hs.At ?_));have hs:=((hs.drop)).drop;exact ⟨rfl,hs.aF⟩
theorem C49 (K:World→Prop) (p:Nat) (m:gT) (w:World) (hm:Has (eP K p m) w) (hw:K w) (vA:∀ w',Ext w w'→K w') (mq:rC m) (Ql:m.u.cC.length≤1000) (hcz:∀ l∈m.u.cC,l.length≤1000) (gk:0≤m.u.stays∧m.u.stays≤m.mem.l.length):CR 49 [(.pointer (some ⟨p,0,none⟩))] w (λ v w'=>lW (bK v (CL m)) w w'):=by
 obtain ⟨a,hr⟩:=eP.rd hm hw;have cm8:=hr.b.cell (o:=8) rfl;have cm0:=hr.b.cell (o:=0) rfl;have Yp:=hr.b.cell (o:=1) rfl;have cm3:=hr.b.cell (o:=3) rfl;have cm9:=hr.b.cell (o:=9) rfl;have Ck:=hr.b.cell (o:=10) rfl;have EX:=hr.b.cell (o:=11) rfl;have Bt:=hr.b.cell (o:=12) rfl;have FQ:=hr.b.cell (o:=13) rfl;have Al:=hr.b.cell (o:=14) rfl;have FR:=hr.b.cell (o:=15) rfl;have aym:=hr.uk.cl _ hw;have hs:=St.start w;refine ag0 _ _ _ ?_;unfold S49;refine aE (aA tG (aA wU (cG RN (cm8.ext hs.aF) ?_)));obtain ⟨aq9,af3,af4⟩:=(aym).open;have hn130:=af4.1;refine aJ FA (af3.ext hs.aF) ?_
 have hs:=hs.fX (α:=Bool);refine ⟨λ mm o x w1=>∃ k:Nat,x = .int .i64 (k:Int)∧mm=m.u.cC.length - k∧k≤m.u.cC.length∧St w bD [bK o ((m.u.cC.take k).map (yI m))] w1,⟨_,0,rfl,rfl,Nat.zero_le _,hs⟩,?_⟩;rintro mm fV _ w1 ⟨k,rfl,rfl,hk,hs⟩ fy;refine aR (aC (λ jG=>?_) (λ jG=>?_))
 ·refine ⟨λ o w'=>St w bD [bK o ((m.u.cC.take (k+1)).map (yI m))] w',?_,?_⟩
  ·obtain ⟨GH,kM⟩:=gx aq9 (i:=((k:Int)).toNat) (by omega);obtain ⟨mz,kN⟩:=gx (m.u.cC) (i:=((k:Int)).toNat) (by omega);have Vg:DL w (Flat.val GH) mz:=af4.2 _ _ _ kM kN;refine aQ FA af3 (by omega) kM (λ _ tT=>aD xA (tT.ext hs.aF) ?_);have ara:=DL.flat (Vg);refine aE (aA tG (aA o9 (have hs:=hs.drew;cG bL (Yp.ext hs.aF) (dB YJ hs (C22 K p m _ (hm.ext hs.aF) (vA _ hs.aF) (λ w2 e=>vA _ (Ext.trans hs.aF e)) mq) (λ Vh w2 bZ hs=>?_)))));refine ⟨aG bL (Yp.ext hs.aF),?_⟩;refine kL ee (hs).fK (by omega) (by omega) (λ PY Bf=>aZ aed hs (C110 _ _ mz (m.mem.l.take (m.u.stays).toNat) _ (ara.ext hs.aF) (Bf _ (hs).fK) (by have:=hcz _ (List.mem_of_getElem? kN); omega)) (λ w3 he hs=>bE rfl (bE rfl (aH (aC (λ nz=>?_) (λ nz=>?_))))))
   ·refine cS (bW ([decide ((runM mz (m.mem.l.take m.u.stays.toNat)).1≠0)]) hs xO rfl rfl (eF rfl) (λ ae9 w4 hs=>?_));have EJ:=(hs).fK;refine cN hs.p2 xO EJ (by simp; omega) (by decide) (λ afl w5 hs=>?_);have hs:=hs.p1.drop.p1.drop;rw [← iP (k:=k) kN];have Si:yI m mz=decide ((runM mz (m.mem.l.take m.u.stays.toNat)).1≠0):=by unfold yI; rw [decide_eq_true nz]; rfl
    rw [Si];exact hs
   ·refine bW ([false]) hs xO rfl rfl (eF rfl) (λ atn w6 hs=>?_);have Xc:=(hs).fK;refine cN hs.p2 xO Xc (by simp; omega) (by decide) (λ ato w7 hs=>?_);have hs:=hs.p1.drop.p1.drop;rw [← iP (k:=k) kN];have Si:yI m mz=false:=by unfold yI; rw [decide_eq_false nz]; rfl
    rw [Si];exact hs
  ·intro nh w8 hs jw;refine aO (by omega) ?_;exact ⟨_,by omega,k+1,rfl,rfl,by omega,hs⟩
 ·rw [List.take_of_length_le (by omega)] at hs;exact hs.fresh
set_option maxHeartbeats 1000000 in
theorem C19 (K:World→Prop) (p:Nat) (m:gT) (w:World) (hm:Has (eP K p m) w) (hw:K w) (vA:∀ w',Ext w w'→K w') (mq:rC m) (tn:MB m.mem 1000000) (aj3:m.u.locks≤1000):CR 19 [(.pointer (some ⟨p,0,none⟩))] w (λ v w'=>∃ b,v = .pointer (some ⟨b,0,none⟩)∧lW (eP K b m) w w'):=by
 obtain ⟨a,hr⟩:=eP.rd hm hw;have cm8:=hr.b.cell (o:=8) rfl;have cm0:=hr.b.cell (o:=0) rfl;have Yp:=hr.b.cell (o:=1) rfl;have cm3:=hr.b.cell (o:=3) rfl;have cm9:=hr.b.cell (o:=9) rfl;have Ck:=hr.b.cell (o:=10) rfl;have EX:=hr.b.cell (o:=11) rfl;have Bt:=hr.b.cell (o:=12) rfl;have FQ:=hr.b.cell (o:=13) rfl;have Al:=hr.b.cell (o:=14) rfl;have FR:=hr.b.cell (o:=15) rfl;have hrl0:=hr.len;have htl0:=mq.tl;obtain ⟨ovs,hov⟩:=((hr.uk.mem _ hw).1).fQ;obtain ⟨fvs,hfv⟩:=((hr.uk.mem _ hw).2).fQ;have zg:=hr.c0;have Cg:=hr.c1;rw [hov] at zg;rw [hfv] at Cg;have hs:=St.start w;refine agD _ _ _ ?_;unfold S19;refine aE (qO aeI hr.b rfl (aN hs abc (λ arb w1 hs=>pn (vs:=jT a m) hs aeI rfl (by simp) (Om hr.lk.one hr.ll.one) (λ w2 hs=>have hs:=hs.enc (cs':=jT a m) rfl;aE (aA jD (have hs:=hs.drew;cG rX (Ck.ext hs.aF) (aE (aA nQ (cG en (EX.ext hs.aF) (ey auy (C69 a.q m.mem ovs fvs _ (zg.ext hs.aF) (Cg.ext hs.aF) (hr.mem.ext hs.aF) mq.mem tn) ?_))))))))))
 rintro _ w3 ⟨b2,rfl,bZ⟩;have hs:=hs.made bZ;refine ⟨aG en (EX.ext hs.aF),?_⟩;refine dB zb hs (C70 _ _ _ (hr.lk.ext hs.aF) (by have ajX:=mq.lk; have:=aj3; omega)) (λ x19 w4 bZ hs=>aA jD (aV hs.p2 rX (eF rfl) (rfl) (λ w5 hs=>aA nQ (aV hs en (eF rfl) ((hs.p1).fK.one) (λ w6 hs=>aA ke (aV hs qP (eF rfl) (rfl) (λ w7 hs=>aE (aA ke (cG qP (Bt.ext hs.aF) (aJ rY (hr.ll.ext hs.aF) ?_))))))))));obtain ⟨IA,rfl⟩:=(hs.p1).fQ;obtain ⟨lk2,ayo⟩:∃ l,l=IA:=⟨_,rfl⟩;subst ayo;have hs:=((((((hs.Kx (H:=qa K m.room)).fX (α:=Ptr)).p4).p4).p3).p3).p4
 refine ⟨λ mm x w'=>∃ (j:Nat) (Xa:Value) (ps2:List Ptr),x = .int .i64 (j:Int)∧mm=a.ps.length - j∧j≤a.ps.length∧St w bD [cD arb (jT {a with q:=b2,lk:=Flat.val lk2,ll:=Xa} m),bK Xa ps2,iz (qa K m.room) ps2 (m.l.take j),bK (Flat.val lk2) m.locks,fU b2 (Flat.val ovs) (Flat.val fvs) m.mem] w',⟨_,0,.slice none 0 0,[],rfl,rfl,Nat.zero_le _,hs⟩,?_⟩;rintro mm _ w8 ⟨j,Xa,ps2,rfl,rfl,hj1,hs⟩ fy;refine aR (aC (λ Vf=>?_) (λ Vf=>?_))
 ·obtain ⟨DO,lC⟩:=gx (a.ps) (i:=((j:Int)).toNat) (by omega);refine aQ rY hr.ll (by omega) lC (λ _ od=>aD BJ (od.ext hs.aF) ?_);obtain ⟨t,ht⟩:∃ t,m.l[j]? = some t:=⟨_,List.getElem?_eq_getElem (by have:=hr.len; omega)⟩;have Cj:=List.mem_of_getElem? ht;have oB:=mq.th t Cj;have yN:=oB.bl;have ax7:=oB.rg;have hcn1:=oB.cn;have Yq:=oB.code.rb;have hcb:=oB.code.cb;obtain ⟨bp,gl,rg,cn,qF,pZ,hB,BR,hcn⟩:=eG.rd (hr.th j _ _ lC ht);obtain ⟨ts0,hts⟩:=id qF;have ct0:=pZ.cell (o:=0) rfl;have ct5:=pZ.cell (o:=5) rfl;have ct6:=pZ.cell (o:=6) rfl;refine aE (qO aeK (tz.ext pZ hs.aF) rfl (aN hs abe (λ aj4 w9 hs=>pn (vs:=[.pointer (some ⟨bp,0,none⟩),.int .i64 t.code.aK,.int .i64 t.code.counts,gl,.int .i64 t.at_,rg,cn,.int .i64 t.fault,.int .i64 t.e,.int .i64 t.f]) hs aeK rfl (by simp) (On ((hts _ hw).1).one BR.one hcn.one) (λ pQ hs=>have hs:=hs.enc (cs':=[.pointer (some ⟨bp,0,none⟩),.int .i64 t.code.aK,.int .i64 t.code.counts,gl,.int .i64 t.at_,rg,cn,.int .i64 t.fault,.int .i64 t.e,.int .i64 t.f]) rfl;aE (aA nS (have hs:=hs.drew;cG rW (ct0.ext hs.aF) (aE (aA px (cG en (ct5.ext hs.aF) (aE (aA vM (cG en (ct6.ext hs.aF) ?_))))))))))))
  refine ey auz (C71 bp m.room t.buf _ (hB.ext hs.aF) (by omega)) ?_;rintro _ sP ⟨bq,rfl,bZ⟩;have hs:=hs.made bZ;refine ⟨aG en (ct5.ext hs.aF),?_⟩;refine ⟨aG en (ct6.ext hs.aF),?_⟩;refine dB zb hs (C70 _ _ _ (BR.ext hs.aF) (by have ajX:=mq.lk; have:=aj3; omega)) (λ x44 vi bZ hs=>?_);refine ⟨aG en (ct6.ext hs.aF),?_⟩;refine dB zb hs (C70 _ _ _ (hcn.ext hs.aF) (by have ajX:=mq.lk; have:=aj3; omega)) (λ x49 vj bZ hs=>aA nS (aV hs.p3 rW (eF rfl) (rfl) (λ sd hs=>aA px (aV hs en (eF rfl) ((hs.p2).fK.one) (λ vW hs=>aA vM (aV hs en (eF rfl) ((hs.p1).fK.one) (λ yM hs=>aA ke ?_)))))))
  have vf:=(hs.p6).lg;refine aB qP hs.p4.hb rfl (bW ([(⟨aj4⟩:Ptr)]) hs rY rfl rfl (eF rfl) (λ aqu Cd hs=>?_));have aj5:=(hs).fK;refine cN hs.p6 rY aj5 (by rw [List.length_take] at vf; have:=mq.tl; simp; omega) (by decide) (λ ard Il hs=>have hs:=hs.p1.drop;aA ke (aV hs.p5 qP (eF rfl) ((hs).fK.one) (λ Jo hs=>aO (by omega) ?_)));have hs:=eG.shut (room:=m.room) (t:=t) qF hs.p3.p4.p5.p5;have vf:=(hs.p3).lg;have hs:=(((((St.DE (H:=qa K m.room) (p:=⟨aj4⟩) (x:=t) hs.p3).p4).p4).p2).p4).p4;exact ⟨_,by omega,j+1,ard,ps2++[⟨aj4⟩],rfl,rfl,by omega,by rw [← gX (k:=j) ht]; exact hs⟩
 ·have hs:=hs.p2.p2.p3.p4.p4;rw [List.take_of_length_le (by have:=hr.len; omega)] at hs;rw [← hov,← hfv] at hs;exact ⟨arb,rfl,(eP.shut (m:=m) (a:={a with q:=b2,lk:=Flat.val lk2,ll:=Xa,ps:=ps2}) ⟨hr.uk.ln,hr.uk.cl,hr.uk.rc,hr.uk.mem⟩ hs).fresh⟩
def Bx (s:ByteArray) (a:Int) (t:ByteArray):Bool:=decide (a+t.size≤s.size) && decide (s.extract a.toNat (a+t.size).toNat=t)
def whF (p:UInt8→Bool) (s:ByteArray):Nat→Nat→Nat
 | 0,a=>a
 | n+1,a=>match (lf s)[a]? with
  | some c=>if p c=true then whF p s n (a+1) else a
  | none=>a
def vD (p:UInt8→Bool) (s:ByteArray) (a:Nat):Nat:=whF p s (s.size - a) a
section
variable {p:UInt8→Bool} {s:ByteArray} {k:Nat} {c:UInt8}
theorem I2 (h:s.size≤k):vD p s k=k:=by unfold vD; rw [show s.size - k=0 from by omega]; rfl
theorem qc (h:(lf s)[k]? = some c):k<s.size:=by have:=(List.getElem?_eq_some_iff.1 h).1; rw [dY] at this; exact this
theorem EZ (h:(lf s)[k]? = some c) (hp:p c=true):vD p s k=vD p s (k+1):=by
 have hk:=qc h
 unfold vD
 rw [show s.size - k=(s.size - (k+1))+1 from by omega,whF,h]
 dsimp only
 rw [if_pos hp]
theorem E0 (h:(lf s)[k]? = some c) (hp:p c=false):vD p s k=k:=by
 have hk:=qc h
 unfold vD
 rw [show s.size - k=(s.size - (k+1))+1 from by omega,whF,h]
 dsimp only
 rw [hp]; rfl
end
def tj (c:UInt8):Bool:=decide (c.toNat=32∨c.toNat=9∨c.toNat=10∨c.toNat=13)
def yb (c:UInt8):Bool:=decide (c.toNat≠10)
def rF (c:UInt8):Bool:=jo c.toNat || nn c.toNat
def vB (c:UInt8):Bool:=nn c.toNat
def kH (s:ByteArray):Nat→Nat→Option Nat
 | 0,_=>none
 | n+1,a=>match (lf s)[a]? with
  | none=>some a
  | some c=>if tj c=true then kH s n (a+1) else if Bx s a ⟨#[47,47]⟩=true then kH s n (vD yb s a) else some a
theorem Oo {s:ByteArray} {n a r:Nat} (h:kH s n a=some r):∃ k,n=k+1:=by
 cases n with
 | zero=>cases h
 | succ k=>exact ⟨k,rfl⟩
section
variable {s:ByteArray} {n a r:Nat} {c:UInt8}
theorem Sz (h:kH s (n+1) a=some r) (ha:s.size≤a):r=a:=by
 unfold kH at h; rw [List.getElem?_eq_none (by rw [dY]; exact ha)] at h; exact (Option.some.inj h).symm
theorem B3 (h:kH s (n+1) a=some r) (hc:(lf s)[a]? = some c) (hb:tj c=true):kH s n (a+1)=some r:=by
 unfold kH at h; rw [hc] at h; dsimp only at h; rw [if_pos hb] at h; exact h
theorem Hb (h:kH s (n+1) a=some r) (hc:(lf s)[a]? = some c) (hb:tj c=false) (hr:Bx s a ⟨#[47,47]⟩=true):kH s n (vD yb s a)=some r:=by
 unfold kH at h; rw [hc] at h; dsimp only at h; rw [if_neg (by rw [hb]; simp),if_pos hr] at h; exact h
theorem LO (h:kH s (n+1) a=some r) (hc:(lf s)[a]? = some c) (hb:tj c=false) (hr:Bx s a ⟨#[47,47]⟩=false):r=a:=by
 unfold kH at h; rw [hc] at h; dsimp only at h; rw [if_neg (by rw [hb]; simp),if_neg (by rw [hr]; simp)] at h; exact (Option.some.inj h).symm
theorem Xd:∀ (n a:Nat) (p:UInt8→Bool),a≤whF p s n a∧whF p s n a≤max a s.size
 | 0,a,p=>⟨Nat.le_refl _,by unfold whF; omega⟩
 | n+1,a,p=>by
  unfold whF
  cases h:(lf s)[a]? with
  | none=>exact ⟨Nat.le_refl _,by dsimp only; omega⟩
  | some c=>
   dsimp only
   split
   ·have:=Xd n (a+1) p; have:=qc h; omega
   ·exact ⟨Nat.le_refl _,by omega⟩
theorem Oq (p:UInt8→Bool):a≤vD p s a∧vD p s a≤max a s.size:=Xd _ _ _
theorem Aw:∀ {n a r:Nat},kH s n a=some r→a≤s.size→a≤r∧r≤s.size
 | 0,_,_,h,_=>by cases h
 | n+1,a,r,h,ha=>by
  cases hc:(lf s)[a]? with
  | none=>unfold kH at h; rw [hc] at h; obtain rfl:=Option.some.inj h; omega
  | some c=>
   have hk:=qc hc
   cases hb:tj c with
   | true=>have:=Aw (B3 h hc hb) (by omega); omega
   | false=>
    cases hr:Bx s a ⟨#[47,47]⟩ with
    | true=>have h1:=Oq (s:=s) (a:=a) yb; have:=Aw (Hb h hc hb hr) (by omega); omega
    | false=>have:=LO h hc hb hr; omega
end
def Cm:List ByteArray:=[⟨#[61,61]⟩,⟨#[33,61]⟩,⟨#[60,61]⟩,⟨#[38,38]⟩,⟨#[124,124]⟩]
def pO (s:ByteArray) (a:Nat) (c:UInt8):Int:=if Cm.any (Bx s a)=true then 2 else if (lf (ByteArray.mk #[40,41,123,125,59,44,61,60,33,43,45,42,47,37])).any (λ x=>decide ((x.toNat:Int)=c.toNat))=true then 1 else 0
def sC (l:List bF) (i:Int) (t:ByteArray):Bool:=decide (0≤i) && (match l[i.toNat]? with | some x=>decide (x.text=t) && decide (x.kind≠2) && decide (1≤x.kind) && decide (x.kind≤3) | none=>false)
def mL (l:List bF) (i:Int):Int:=match (if 0≤i then l[i.toNat]? else none) with
 | some x=>x.at_
 | none=>match l.getLast? with
  | some x=>x.at_+x.text.size
  | none=>0
theorem adl:∀ t∈Cm,t.size≤1000000:=by decide
theorem rG {l:List bF} {i:Int} {t:ByteArray} (h:sC l i t=true):0≤i∧i<l.length:=by
 unfold sC at h
 rw [Bool.and_eq_true,decide_eq_true_eq] at h
 refine ⟨h.1,?_⟩
 cases hx:l[i.toNat]? with
 | none=>rw [hx] at h; cases h.2
 | some x=>have:=(List.getElem?_eq_some_iff.1 hx).1; omega
theorem C232 (s t:ByteArray) (i:Int) (w:World) (hz:s.size≤1000000) (hz2:t.size≤1000000) (h0:0≤i∧i≤2000000):CR 232 [.string s,.int .i64 i,.string t] w (λ v w'=>v = .bool (Bx s i t)∧Ext w w'):=by
 have hs:=St.start w;refine aaz _ _ _ _ _ ?_;unfold S232;refine ⟨λ jv w'=>jv = .bool (Bx s i t)∧w=w',?_,?_⟩
 ·refine gb gH (aO (by omega) (gb gH (j4 (aC (λ kF=>?_) (λ kF=>?_)))))
  ·refine gb gH (aO (by omega) (Ks gH (by omega) (by omega) (by omega) (tS ?_)));exact ⟨vb (by unfold Bx; grind),rfl⟩
  ·exact ⟨vb (by unfold Bx; grind),rfl⟩
 ·rintro _ w1 ⟨rfl,hw⟩ fy;subst hw;exact ⟨rfl,hs.aF⟩
theorem C209 (s:ByteArray) (i N r:Nat) (w:World) (hz:s.size≤4000) (h0:i≤s.size) (hr:kH s N i=some r):CR 209 [.string s,.int .i64 (i:Int)] w (λ v w'=>v = .int .i64 (r:Int)∧Ext w w'):=by
 have hz0:=hz;replace hz:s.size≤1000000:=by omega
 have hs:=St.start w;refine aae _ _ _ _ ?_;unfold S209;refine ⟨λ mm x w1=>∃ a:Nat,x = .int .i64 (a:Int)∧a≤s.size∧kH s mm a=some r∧St w bD [] w1,⟨N,i,rfl,h0,hr,hs⟩,?_⟩;rintro mm _ w1 ⟨a,rfl,ha,hp,hs⟩ fy;obtain ⟨k,rfl⟩:=Oo hp;refine gb gH (aR (aC (λ gu=>?_) (λ gu=>?_)))
 ·obtain ⟨are,E1⟩:∃ xx,(lf (s))[((a:Int)).toNat]? = some xx:=⟨_,List.getElem?_eq_getElem (by rw [dY]; omega)⟩;refine lH gH (by omega) E1 ?_;refine ⟨λ jv w'=>jv = .bool (tj are)∧w1=w',?_,?_⟩
  ·refine nZ (aC (λ gP=>?_) (λ gP=>?_))
   ·exact ⟨vb (by unfold tj; first | exact (decide_eq_true (by omega)).symm | exact decide_eq_decide.2 (by omega)),rfl⟩
   ·refine nZ (aC (λ lZ=>?_) (λ lZ=>?_))
    ·exact ⟨vb (by unfold tj; first | exact (decide_eq_true (by omega)).symm | exact decide_eq_decide.2 (by omega)),rfl⟩
    ·refine nZ (aC (λ gr=>?_) (λ gr=>?_))
     ·exact ⟨vb (by unfold tj; first | exact (decide_eq_true (by omega)).symm | exact decide_eq_decide.2 (by omega)),rfl⟩
     ·refine nZ ?_;exact ⟨vb (by unfold tj; first | exact (decide_eq_true (by omega)).symm | exact decide_eq_decide.2 (by omega)),rfl⟩
  ·rintro _ w2 ⟨rfl,hw⟩ jw;subst hw;refine aX (λ si=>?_) (λ si=>?_)
   ·refine aO (by omega) ?_;have hal:=qc E1;exact ⟨k,by omega,a+1,rfl,by omega,B3 hp E1 si,hs⟩
   ·refine aZ aeA hs (C232 s (ByteArray.mk #[47,47]) (a:Int) _ hz (by decide) (by omega)) (λ w3 he hs=>aX (λ lK=>?_) (λ lK=>?_))
    ·refine ⟨λ mm x w1=>∃ j:Nat,x = .int .i64 (j:Int)∧mm=s.size - j∧a≤j∧j≤s.size∧vD yb s a=vD yb s j∧St w bD [] w1,⟨_,a,rfl,rfl,Nat.le_refl _,ha,rfl,hs⟩,?_⟩;rintro mm _ w4 ⟨j,rfl,rfl,haj,hj,gk,hs⟩ oN;refine ⟨λ jv w'=>jv = .bool ((match (lf s)[j]? with | some c=>yb c | none=>false))∧w4=w',?_,?_⟩
     ·refine gb gH (aR (aC (λ jq=>?_) (λ jq=>?_)))
      ·obtain ⟨qo,pY⟩:∃ xx,(lf (s))[((j:Int)).toNat]? = some xx:=⟨_,List.getElem?_eq_getElem (by rw [dY]; omega)⟩;refine lH gH (by omega) pY (UB ?_);exact ⟨vb (by first | (rw [show (lf s)[j]? = some qo from pY]; unfold yb; exact decide_eq_decide.2 (by omega)) | (rw [List.getElem?_eq_none (by rw [dY]; omega)])),rfl⟩
      ·exact ⟨vb (by first | (rw [show (lf s)[j]? = some qo from pY]; unfold yb; exact decide_eq_decide.2 (by omega)) | (rw [List.getElem?_eq_none (by rw [dY]; omega)])),rfl⟩
     ·rintro _ w5 ⟨rfl,hw⟩ GF;subst hw;refine aX (λ jX=>?_) (λ jX=>?_)
      ·refine aO (by omega) ?_
       have QN:∃ c,(lf s)[j]? = some c∧yb c=true:=by
        cases hc:(lf s)[j]? with
        | none=>rw [hc] at jX; cases jX
        | some c=>rw [hc] at jX; exact ⟨c,rfl,jX⟩
       obtain ⟨cj,Cn,SA⟩:=QN;have hjl:=qc Cn;exact ⟨_,by omega,j+1,rfl,rfl,by omega,by omega,gk.trans (EZ Cn SA),hs⟩
      ·have ayp:vD yb s j=j:=by
        by_cases hjs:j<s.size
        ·obtain ⟨cj,QN⟩:∃ c,(lf s)[j]? = some c:=⟨_,List.getElem?_eq_getElem (by rw [dY]; exact hjs)⟩;rw [QN] at jX; exact E0 QN jX
        ·exact I2 (by omega)
       have Yz:=Hb hp E1 si lK;rw [gk,ayp] at Yz;exact ⟨k,by omega,j,rfl,hj,Yz,hs⟩
    ·have hx:=LO hp E1 si (by exact_mod_cast lK);subst hx;exact ⟨rfl,hs.aF⟩
 ·have hx:=Sz hp (by omega);subst hx;exact ⟨rfl,hs.aF⟩
theorem C210 (s:ByteArray) (i:Nat) (c:UInt8) (w:World) (hz:s.size≤1000000) (hc:(lf s)[i]? = some c):CR 210 [.string s,.int .i64 (i:Int)] w (λ v w'=>v = .int .i64 (pO s i c)∧Ext w w'):=by
 have hi:=qc hc;have hs:=St.start w;refine aaf _ _ _ _ ?_;unfold S210;refine bW (Cm) hs mS rfl rfl (eF rfl) (λ aow w1 hs=>?_);refine ⟨λ mm x w1=>∃ k:Nat,x = .int .i64 (k:Int)∧mm=Cm.length - k∧k≤Cm.length∧(∀ y∈Cm.take k,Bx s i y=false)∧St w bD [bK aow Cm] w1,⟨_,0,rfl,rfl,Nat.zero_le _,by simp,hs⟩,?_⟩;rintro mm _ w2 ⟨k,rfl,rfl,hk,fS,hs⟩ fy;refine aJ mS (hs).fK ?_;have MZ:Cm.length=5:=rfl;refine aR (aC (λ kF=>?_) (λ kF=>?_))
 ·obtain ⟨afj,oW⟩:=gx (Cm) (i:=((k:Int)).toNat) (by omega);refine dS hs mS (by omega) (by omega) (λ _ Li=>gj hs j5 Li oW (aZ aeA hs (C232 s afj (i:Int) _ hz (adl _ (List.mem_of_getElem? oW)) (by omega)) (λ w3 he hs=>aX (λ iM=>?_) (λ iM=>?_))))
  ·exact ⟨congrArg (Value.int .i64) (by unfold pO; rw [if_pos (jx oW iM)]),hs.drop.aF⟩
  ·refine aO (by omega) ?_;exact ⟨_,by omega,k+1,rfl,rfl,by omega,eC fS oW iM,hs⟩
 ·have hs:=(hs).drop;refine ⟨λ mm x w1=>∃ j:Nat,x = .int .i64 (j:Int)∧mm=(ByteArray.mk #[40,41,123,125,59,44,61,60,33,43,45,42,47,37]).size - j∧j≤(ByteArray.mk #[40,41,123,125,59,44,61,60,33,43,45,42,47,37]).size∧(∀ y∈(lf (ByteArray.mk #[40,41,123,125,59,44,61,60,33,43,45,42,47,37])).take j,decide ((y.toNat:Int)=c.toNat)=false)∧St w bD [] w1,⟨_,0,rfl,rfl,Nat.zero_le _,by simp,hs⟩,?_⟩;rintro mm _ w4 ⟨j,rfl,rfl,hj,D5,hs⟩ jw;refine gb gH ?_;have Yo:(ByteArray.mk #[40,41,123,125,59,44,61,60,33,43,45,42,47,37]).size=14:=rfl;refine aR (aC (λ si=>?_) (λ si=>?_))
  ·obtain ⟨ap6,Bn⟩:∃ xx,(lf ((ByteArray.mk #[40,41,123,125,59,44,61,60,33,43,45,42,47,37])))[((j:Int)).toNat]? = some xx:=⟨_,List.getElem?_eq_getElem (by rw [dY]; omega)⟩;refine lH gH (by omega) Bn ?_;obtain ⟨vo,td⟩:∃ xx,(lf (s))[((i:Int)).toNat]? = some xx:=⟨_,List.getElem?_eq_getElem (by rw [dY]; omega)⟩;refine lH gH (by omega) td ?_;obtain rfl:=Option.some.inj (td.symm.trans hc);refine nZ (aC (λ jq=>?_) (λ jq=>?_))
   ·have hs:=hs.drew;have hn2:Cm.any (Bx s i)=false:=iF (by rw [List.take_of_length_le (by omega)] at fS; exact fS);exact ⟨congrArg (Value.int .i64) (by unfold pO; rw [if_neg (by rw [hn2]; simp),if_pos (jx Bn (decide_eq_true jq))]),hs.aF⟩
   ·refine aO (by omega) ?_;have hs:=hs.drew;exact ⟨_,by omega,j+1,rfl,rfl,by omega,eC D5 Bn (decide_eq_false jq),hs⟩
  ·have hn2:Cm.any (Bx s i)=false:=iF (by rw [List.take_of_length_le (by omega)] at fS; exact fS);have hn3:=iF (g:=λ x:UInt8=>decide ((x.toNat:Int)=c.toNat)) (by rw [List.take_of_length_le (by rw [dY]; omega)] at D5; exact D5);exact ⟨congrArg (Value.int .i64) (by unfold pO; rw [if_neg (by rw [hn2]; simp),if_neg (by rw [hn3]; simp)]),hs.aF⟩
theorem C211 (lv:Value) (l:List bF) (i:Int) (t:ByteArray) (w:World) (hL:eI (λ _=>True) w lv l) (hn:l.length≤1000000):CR 211 [lv,.int .i64 i,.string t] w (λ v w'=>v = .bool (sC l i t)∧Ext w w'):=by
 have hs:=St.start w;refine aag _ _ _ _ _ ?_;unfold S211;refine ⟨λ jv w'=>jv = .bool (sC l i t)∧w=w',?_,?_⟩
 ·refine dG (aC (λ gn=>?_) (λ gn=>?_))
  ·refine aJ fz (hL.ext hs.aF) (aR (aC (λ kF=>?_) (λ kF=>?_)))
   ·obtain ⟨qY,jk⟩:=gx (l) (i:=(i).toNat) (by omega);refine aQ fz hL (by omega) jk (λ _ v8=>bP (qY).text mX v8 rfl rfl (λ _ jI=>aD j5 (jI.ext hs.aF) (tS (aC (λ iM=>?_) (λ iM=>?_)))))
    ·refine aQ fz hL (by omega) jk (λ _ v9=>bP (qY).kind kZ v9 rfl rfl (λ _ wg=>aD bL (wg.ext hs.aF) (cS (aC (λ nA=>?_) (λ nA=>?_)))))
     ·refine aQ fz hL (by omega) jk (λ _ zG=>bP (qY).kind kZ zG rfl rfl (λ _ tV=>aD bL (tV.ext hs.aF) (dG (aC (λ m7=>?_) (λ m7=>?_)))))
      ·refine aQ fz hL (by omega) jk (λ _ xZ=>bP (qY).kind kZ xZ rfl rfl (λ _ Ax=>aD bL (Ax.ext hs.aF) (j4 ?_)));exact ⟨vb (by unfold sC; first | (rw [jk]; grind) | (rw [decide_eq_false (by omega)]; rfl) | (rw [List.getElem?_eq_none (by omega)]; simp)),rfl⟩
      ·exact ⟨vb (by unfold sC; first | (rw [jk]; grind) | (rw [decide_eq_false (by omega)]; rfl) | (rw [List.getElem?_eq_none (by omega)]; simp)),rfl⟩
     ·exact ⟨vb (by unfold sC; first | (rw [jk]; grind) | (rw [decide_eq_false (by omega)]; rfl) | (rw [List.getElem?_eq_none (by omega)]; simp)),rfl⟩
    ·exact ⟨vb (by unfold sC; first | (rw [jk]; grind) | (rw [decide_eq_false (by omega)]; rfl) | (rw [List.getElem?_eq_none (by omega)]; simp)),rfl⟩
   ·exact ⟨vb (by unfold sC; first | (rw [jk]; grind) | (rw [decide_eq_false (by omega)]; rfl) | (rw [List.getElem?_eq_none (by omega)]; simp)),rfl⟩
  ·exact ⟨vb (by unfold sC; first | (rw [jk]; grind) | (rw [decide_eq_false (by omega)]; rfl) | (rw [List.getElem?_eq_none (by omega)]; simp)),rfl⟩
 ·rintro _ w1 ⟨rfl,hw⟩ fy;subst hw;exact ⟨rfl,hs.aF⟩
theorem C215 (lv:Value) (l:List bF) (i:Int) (w:World) (hL:eI (λ _=>True) w lv l) (hn:l.length≤1000000) (sR:∀ x∈l,0≤x.at_∧x.at_≤1000000∧x.text.size≤1000000):CR 215 [lv,.int .i64 i] w (λ v w'=>v = .int .i64 (mL l i)∧Ext w w'):=by
 have hs:=St.start w;refine aak _ _ _ _ ?_;unfold S215;refine ⟨λ jv w'=>jv = .bool (decide (0≤i∧i<l.length))∧w=w',?_,?_⟩
 ·refine dG (aC (λ pD=>?_) (λ pD=>?_))
  ·refine aJ fz (hL.ext hs.aF) (aR ?_);exact ⟨xu (by omega),rfl⟩
  ·exact ⟨YF (by omega),rfl⟩
 ·rintro _ w1 ⟨rfl,hw⟩ fy;subst hw;refine aC (λ jW=>?_) (λ jW=>?_)
  ·obtain ⟨pG,jQ⟩:=gx (l) (i:=(i).toNat) (by omega);refine aQ fz hL (by omega) jQ (λ _ qX=>bP (pG).at_ ld qX rfl rfl (λ _ tT=>aD bL (tT.ext hs.aF) ?_));exact ⟨congrArg (Value.int .i64) (by unfold mL; rw [if_pos (by omega),jQ]),hs.aF⟩
  ·refine aJ fz (hL.ext hs.aF) (aH (aC (λ jr=>?_) (λ jr=>?_)))
   ·have hl0:l=[]:=List.length_eq_zero_iff.1 (by omega);subst hl0;exact ⟨congrArg (Value.int .i64) (by unfold mL; split <;> simp_all),hs.aF⟩
   ·refine aJ fz (hL.ext hs.aF) (gy (by omega) ?_);obtain ⟨GL,pX⟩:=gx (l) (i:=((((l).length:Int) - 1)).toNat) (by omega);refine aQ fz hL (by omega) pX (λ _ ud=>bP (GL).at_ ld ud rfl rfl (λ _ q7=>have hs:=hs.drew;aD bL (q7.ext hs.aF) (aJ fz (hL.ext hs.aF) (gy (by omega) (aQ fz hL (by omega) pX (λ _ zS=>bP (GL).text mX zS rfl rfl (λ _ zT=>aD j5 (zT.ext hs.aF) (gb gH ?_))))))));have hax:=sR _ (List.mem_of_getElem? pX);refine aO (by omega) ?_;have hgl:l.getLast? = some GL:=by rw [List.getLast?_eq_getElem?,← pX]; congr 1; omega
    have fS:(if 0≤i then l[i.toNat]? else none)=none:=by split; exact List.getElem?_eq_none (by omega); rfl
    exact ⟨congrArg (Value.int .i64) (by unfold mL; rw [fS,hgl]),hs.aF⟩
def numOf (s:ByteArray) (a k:Nat):Int:=(((lf s).drop a).take (k - a)).foldl (λ n c=>if n≤4294967296 then 10 * n+((c.toNat:Int) - 48) else n) 0
theorem I3 (s:ByteArray) (a:Nat):numOf s a a=0:=by unfold numOf; rw [Nat.sub_self]; rfl
theorem yJ {s:ByteArray} {a k:Nat} {c:UInt8} (ha:a≤k) (h:(lf s)[k]? = some c):numOf s a (k+1)=if numOf s a k≤4294967296 then 10 * numOf s a k+((c.toNat:Int) - 48) else numOf s a k:=by
 unfold numOf
 rw [show k+1 - a=(k - a)+1 from by omega,List.take_add_one,List.getElem?_drop,show a+(k - a)=k from by omega,h,Option.toList_some,List.foldl_append]
 rfl
theorem adm {s:ByteArray} {a:Nat}:∀ {k:Nat},a≤k→k≤s.size→(∀ j c,a≤j→j<k→(lf s)[j]? = some c→48≤(c.toNat:Int)∧(c.toNat:Int)≤57)→0≤numOf s a k∧numOf s a k≤42949672969:=by
 intro k
 induction k with
 | zero=>
  intro h _ _
  have e:a=0:=by omega
  rw [e,I3]; omega
 | succ k ih=>
  intro ha hk hd
  by_cases e:a=k+1
  ·subst e; rw [I3]; omega
  ·have:=ih (by omega) (by omega) λ j c h1 h2=>hd j c h1 (by omega)
   obtain ⟨c,hc⟩:∃ c,(lf s)[k]? = some c:=⟨_,List.getElem?_eq_getElem (by rw [dY]; omega)⟩
   have h2:=hd k c (by omega) (by omega) hc
   rw [yJ (by omega) hc]
   split <;> omega
def mf (s:ByteArray):Nat→Nat→List bF→Option (List bF × Int × Int)
 | 0,_,_=>none
 | n+1,a,out=>match (lf s)[a]? with
  | none=>some (out,0,0)
  | some c=>
   if jo c.toNat=true then (if 16<vD rF s a - a then some ([],2,(a:Int)) else (kH s (s.size+1) (vD rF s a)).bind λ a'=>mf s n a' (out++[⟨1,s.extract a (vD rF s a),0,a⟩]))
   else if nn c.toNat=true then (if 4294967296<numOf s a (vD vB s a) then some ([],4,(a:Int)) else (kH s (s.size+1) (vD vB s a)).bind λ a'=>mf s n a' (out++[⟨2,s.extract a (vD vB s a),numOf s a (vD vB s a),a⟩]))
   else if pO s a c=0 then some ([],3,(a:Int)) else (kH s (s.size+1) (a+(pO s a c).toNat)).bind λ a'=>mf s n a' (out++[⟨3,s.extract a (a+(pO s a c).toNat),0,a⟩])
def uu (s:ByteArray):Option (List bF × Int × Int):=if 4000<s.size then some ([],2,4000) else (kH s (s.size+1) 0).bind λ a=>mf s (s.size+2) a []
theorem Ot {s:ByteArray} {n a:Nat} {out:List bF} {r:List bF × Int × Int} (h:mf s n a out=some r):∃ k,n=k+1:=by
 cases n with
 | zero=>cases h
 | succ k=>exact ⟨k,rfl⟩
def Ay (s:ByteArray) (k a:Nat) (out:List bF) (R:List bF × Int × Int) (kd:Int) (e:Nat) (n:Int):Prop:=a<e∧e≤s.size∧∃ a',kH s (s.size+1) e=some a'∧mf s k a' (out++[⟨kd,s.extract a e,n,a⟩])=some R
section
variable {s:ByteArray} {k a:Nat} {c:UInt8} {out:List bF} {R:List bF × Int × Int}
theorem SB (h:mf s (k+1) a out=some R) (ha:s.size≤a):R=(out,0,0):=by
 unfold mf at h; rw [List.getElem?_eq_none (by rw [dY]; exact ha)] at h; exact (Option.some.inj h).symm
theorem FT (h:mf s (k+1) a out=some R) (hc:(lf s)[a]? = some c) (hl:jo c.toNat=true) (hb:16<vD rF s a - a):R=([],2,(a:Int)):=by
 unfold mf at h; rw [hc] at h; dsimp only at h; rw [if_pos hl,if_pos hb] at h; exact (Option.some.inj h).symm
theorem By {e:Nat} {kd n:Int} (h:((kH s (s.size+1) e).bind λ a'=>mf s k a' (out++[⟨kd,s.extract a e,n,a⟩]))=some R) (h1:a<e) (h2:e≤s.size):Ay s k a out R kd e n:=by
 cases hp:kH s (s.size+1) e with
 | none=>rw [hp] at h; cases h
 | some a'=>rw [hp] at h; exact ⟨h1,h2,a',hp,h⟩
theorem SC (h:mf s (k+1) a out=some R) (hc:(lf s)[a]? = some c) (hl:jo c.toNat=true) (hb:¬ 16<vD rF s a - a) (hgt:a<vD rF s a):Ay s k a out R 1 (vD rF s a) 0:=by
 unfold mf at h; rw [hc] at h; dsimp only at h; rw [if_pos hl,if_neg hb] at h
 have:=qc hc; have h2:=Oq (s:=s) (a:=a) rF
 exact By h hgt (by omega)
theorem I4 (h:mf s (k+1) a out=some R) (hc:(lf s)[a]? = some c) (hl:jo c.toNat=false) (hd:nn c.toNat=true) (hb:4294967296<numOf s a (vD vB s a)):R=([],4,(a:Int)):=by
 unfold mf at h; rw [hc] at h; dsimp only at h; rw [if_neg (by rw [hl]; simp),if_pos hd,if_pos hb] at h; exact (Option.some.inj h).symm
theorem Xe (h:mf s (k+1) a out=some R) (hc:(lf s)[a]? = some c) (hl:jo c.toNat=false) (hd:nn c.toNat=true) (hb:¬ 4294967296<numOf s a (vD vB s a)) (hgt:a<vD vB s a):Ay s k a out R 2 (vD vB s a) (numOf s a (vD vB s a)):=by
 unfold mf at h; rw [hc] at h; dsimp only at h; rw [if_neg (by rw [hl]; simp),if_pos hd,if_neg hb] at h
 have:=qc hc; have h2:=Oq (s:=s) (a:=a) vB
 exact By h hgt (by omega)
theorem SD (h:mf s (k+1) a out=some R) (hc:(lf s)[a]? = some c) (hl:jo c.toNat=false) (hd:nn c.toNat=false) (hb:pO s a c=0):R=([],3,(a:Int)):=by
 unfold mf at h; rw [hc] at h; dsimp only at h; rw [if_neg (by rw [hl]; simp),if_neg (by rw [hd]; simp),if_pos hb] at h; exact (Option.some.inj h).symm
theorem Xf (s:ByteArray) (a:Nat) (c:UInt8):pO s a c=0∨pO s a c=1∨pO s a c=2:=by
 unfold pO
 repeat' split
 all_goals simp
theorem QO {s:ByteArray} {a:Nat} {c:UInt8} (h:(lf s)[a]? = some c):(a:Int)+pO s a c≤s.size:=by
 have hk:=qc h
 unfold pO
 split
 ·rename_i h2
  rw [List.any_eq_true] at h2
  obtain ⟨t,ht,hb⟩:=h2
  have:t.size=2:=by
   have mh:∀ t∈Cm,t.size=2:=by decide
   exact mh t ht
  unfold Bx at hb
  rw [Bool.and_eq_true,decide_eq_true_eq] at hb
  omega
 ·split <;> omega
theorem SE (h:mf s (k+1) a out=some R) (hc:(lf s)[a]? = some c) (hl:jo c.toNat=false) (hd:nn c.toNat=false) (hb:¬ pO s a c=0):Ay s k a out R 3 (a+(pO s a c).toNat) 0:=by
 unfold mf at h; rw [hc] at h; dsimp only at h; rw [if_neg (by rw [hl]; simp),if_neg (by rw [hd]; simp),if_neg hb] at h
 have h1:=Xf s a c; have h2:=QO hc
 exact By h (by omega) (by omega)
end
set_option maxHeartbeats 1000000 in
theorem C164 (s:ByteArray) (R:List bF × Int × Int) (w:World) (Yi:s.size≤1000000) (hr:uu s=some R):CR 164 [.string s] w (λ v w'=>∃ o,v = .tuple #[o,.int .i64 R.2.1,.int .i64 R.2.2]∧lW (bK o R.1) w w'):=by
 have hs:=St.start w;refine ZC _ _ _ ?_;unfold S164;refine gb gH (cZ (aC (λ gO=>?_) (λ gO=>?_)))
 ·have hR:([],2,4000)=R:=by unfold uu at hr; rw [if_pos (by omega)] at hr; exact Option.some.inj hr
  subst hR;exact ⟨_,rfl,hs.fX.fresh⟩
 ·have h4:s.size≤4000:=by omega
  obtain ⟨a0,ha0,hp0⟩:∃ a0,kH s (s.size+1) 0=some a0∧mf s (s.size+2) a0 []=some R:=by
   unfold uu at hr;rw [if_neg (by omega)] at hr;cases hq:kH s (s.size+1) 0 with
   | none=>rw [hq] at hr; cases hr
   | some a0=>rw [hq] at hr; exact ⟨a0,rfl,hr⟩
  have ayr:=Aw ha0 (by omega);refine bW (([]:List bF)) hs fz rfl rfl (eF rfl) (λ s_x12 w1 hs=>aZ aex hs (C209 s 0 (s.size+1) a0 _ (by omega) (by omega) ha0) (λ w2 he hs=>?_));refine ⟨λ mm o x w'=>∃ (a:Nat) (out:List bF),x = .int .i64 (a:Int)∧a≤s.size∧out.length≤a∧mf s mm a out=some R∧St w bD [bK o out] w',⟨_,a0,[],rfl,ayr.2,Nat.zero_le _,hp0,hs⟩,?_⟩;rintro mm yg _ w3 ⟨a,out,rfl,ha,Yo,hp,hs⟩ fy;obtain ⟨k,rfl⟩:=Ot hp;refine gb gH (aR (aC (λ gd=>?_) (λ gd=>?_)))
  ·refine pop (Ur _) (aN hs abi (λ SF w4 hs=>aI (x:=(⟨0,(ByteArray.mk #[]),0,(a:Int)⟩:bF)) hs aeM rfl rfl (λ w5 hs=>?_)));refine ⟨λ to w'=>∃ (kd:Int) (e:Nat) (n:Int),to = .int .i64 (e:Int)∧Ay s k a out R kd e n∧St w bD [cD SF (Flat.enc (⟨kd,ByteArray.mk #[],n,(a:Int)⟩:bF)),bK yg out] w',?_,?_⟩
   ·obtain ⟨gQ,iq⟩:∃ xx,(lf (s))[((a:Int)).toNat]? = some xx:=⟨_,List.getElem?_eq_getElem (by rw [dY]; omega)⟩;refine lH gH (by omega) iq ?_;have Yr:(lf s)[a]? = some gQ:=iq;refine aZ Pt hs (C206 _ _) (λ w6 he hs=>aX (λ fR=>?_) (λ fR=>?_))
    ·have Mw:=fR;refine aA kZ (aV hs bL (eF rfl) (rfl) (λ w7 hs=>?_));have hs:=hs.enc (cs':=Flat.enc ({ (⟨0,(ByteArray.mk #[]),0,(a:Int)⟩:bF) with kind:=1}:bF)) rfl;have hs:=hs.p1.p1;refine ⟨λ mm x w'=>∃ j:Nat,x = .int .i64 (j:Int)∧mm=s.size - j∧a≤j∧j≤s.size∧vD rF s a=vD rF s j∧St w bD [cD SF (Flat.enc (⟨1,ByteArray.mk #[],0,(a:Int)⟩:bF)),bK yg out] w',⟨_,a,rfl,rfl,Nat.le_refl _,ha,rfl,hs⟩,?_⟩;rintro mm _ w8 ⟨j,rfl,rfl,haj,hj,gk,hs⟩ jw;refine ⟨λ jv w'=>jv = .bool (match (lf s)[j]? with | some c=>rF c | none=>false)∧St w bD [cD SF (Flat.enc (⟨1,ByteArray.mk #[],0,(a:Int)⟩:bF)),bK yg out] w',?_,?_⟩
     ·refine gb gH (aR (aC (λ nA=>?_) (λ nA=>?_)))
      ·obtain ⟨vo,td⟩:∃ xx,(lf (s))[((j:Int)).toNat]? = some xx:=⟨_,List.getElem?_eq_getElem (by rw [dY]; omega)⟩;refine lH gH (by omega) td ?_;have hcj0:(lf s)[j]? = some vo:=td;refine aZ Pt hs (C206 _ _) (λ w9 he hs=>aX (λ jq=>?_) (λ jq=>?_))
       ·exact ⟨vb (by first | (rw [show (lf s)[j]? = some vo from td]; show _=(jo vo.toNat || nn vo.toNat); rw [jq]; rfl) | (rw [List.getElem?_eq_none (by rw [dY]; omega)])),hs⟩
       ·refine lH gH (by omega) td (aZ Pu hs (C208 _ _) (λ pQ he hs=>?_));exact ⟨vb (by first | (rw [show (lf s)[j]? = some vo from td]; show _=(jo vo.toNat || nn vo.toNat); rw [jq]; rfl) | (rw [List.getElem?_eq_none (by rw [dY]; omega)])),hs⟩
      ·exact ⟨vb (by first | (rw [show (lf s)[j]? = some vo from td]; show _=(jo vo.toNat || nn vo.toNat); rw [jq]; rfl) | (rw [List.getElem?_eq_none (by rw [dY]; omega)])),hs⟩
     ·rintro _ sP ⟨rfl,hs⟩ oN;refine aX (λ mB=>?_) (λ mB=>?_)
      ·refine aO (by omega) ?_
       have QN:∃ c,(lf s)[j]? = some c∧rF c=true:=by
        cases hc:(lf s)[j]? with
        | none=>rw [hc] at mB; cases mB
        | some c=>rw [hc] at mB; exact ⟨c,rfl,mB⟩
       obtain ⟨cj,Cn,SA⟩:=QN;have hjl:=qc Cn;exact ⟨_,by omega,j+1,rfl,rfl,by omega,by omega,gk.trans (EZ Cn SA),hs⟩
      ·have I5:vD rF s j=j:=by
        by_cases hjs:j<s.size
        ·obtain ⟨cj,QN⟩:∃ c,(lf s)[j]? = some c:=⟨_,List.getElem?_eq_getElem (by rw [dY]; exact hjs)⟩;rw [QN] at mB; exact E0 QN mB
        ·exact I2 (by omega)
       refine gy (by omega) (cZ (aC (λ zK=>?_) (λ zK=>?_)))
       ·have hs:=((hs.drop)).drop;have hR:=FT hp Yr Mw (by rw [gk,I5]; omega);subst hR;exact ⟨_,rfl,hs.fX.fresh⟩
       ·have hs:=hs.p1.p1
        have hgt:a<j:=by
         rcases Nat.lt_or_ge a j with h | h
         ·exact h
         ·obtain rfl:j=a:=by omega
          rw [Yr] at mB; have h9:rF gQ=false:=mB; unfold rF at h9; rw [Mw] at h9; cases h9
        have Xg:=SC hp Yr Mw (by rw [gk,I5]; omega) (by rw [gk,I5]; exact hgt);rw [gk,I5] at Xg;exact ⟨1,j,0,rfl,Xg,hs⟩
    ·have Mw:=fR;refine lH gH (by omega) iq (aZ Pu hs (C208 _ _) (λ vi he hs=>aX (λ BP=>?_) (λ BP=>?_)))
     ·have hda:=BP;refine aA kZ (aV hs bL (eF rfl) (rfl) (λ vj hs=>?_));have hs:=hs.enc (cs':=Flat.enc ({ (⟨0,(ByteArray.mk #[]),0,(a:Int)⟩:bF) with kind:=2}:bF)) rfl;have hs:=hs.p1.p1;refine ⟨λ mm x w'=>∃ j:Nat,x = .int .i64 (j:Int)∧mm=s.size - j∧a≤j∧j≤s.size∧vD vB s a=vD vB s j∧(∀ (i:Nat) (c:UInt8),a≤i→i<j→(lf s)[i]? = some c→48≤(c.toNat:Int)∧(c.toNat:Int)≤57)∧St w bD [cD SF (Flat.enc (⟨2,ByteArray.mk #[],(numOf s a j),(a:Int)⟩:bF)),bK yg out] w',⟨_,a,rfl,rfl,Nat.le_refl _,ha,rfl,λ i c h1 h2=>absurd h1 (by omega),by rw [I3]; exact hs⟩,?_⟩
      rintro mm _ sd ⟨j,rfl,rfl,haj,hj,gk,hdg,hs⟩ GF;refine ⟨λ jv w'=>jv = .bool (match (lf s)[j]? with | some c=>vB c | none=>false)∧St w bD [cD SF (Flat.enc (⟨2,ByteArray.mk #[],(numOf s a j),(a:Int)⟩:bF)),bK yg out] w',?_,?_⟩
      ·refine gb gH (aR (aC (λ tZ=>?_) (λ tZ=>?_)))
       ·obtain ⟨af7,Ou⟩:∃ xx,(lf (s))[((j:Int)).toNat]? = some xx:=⟨_,List.getElem?_eq_getElem (by rw [dY]; omega)⟩;refine lH gH (by omega) Ou (aZ Pu hs (C208 _ _) (λ vW he hs=>?_));exact ⟨vb (by first | (rw [show (lf s)[j]? = some af7 from Ou]; rfl) | (rw [List.getElem?_eq_none (by rw [dY]; omega)])),hs⟩
       ·exact ⟨vb (by first | (rw [show (lf s)[j]? = some af7 from Ou]; rfl) | (rw [List.getElem?_eq_none (by rw [dY]; omega)])),hs⟩
      ·rintro _ yM ⟨rfl,hs⟩ R0;refine aX (λ qm=>?_) (λ qm=>?_)
       ·have QN:∃ c,(lf s)[j]? = some c∧vB c=true:=by
         cases hc:(lf s)[j]? with
         | none=>rw [hc] at qm; cases qm
         | some c=>rw [hc] at qm; exact ⟨c,rfl,qm⟩
        obtain ⟨cj,Cn,SA⟩:=QN;have hjl:=qc Cn;have hcd:=SA;unfold vB nn at hcd;rw [decide_eq_true_eq] at hcd;have hnb:=adm haj (by omega) hdg;refine ⟨λ w'=>St w bD [cD SF (Flat.enc (⟨2,ByteArray.mk #[],(numOf s a (j+1)),(a:Int)⟩:bF)),bK yg out] w',?_,?_⟩
        ·refine aA qT (aB (v:=.int .i64 (numOf s a j)) bL hs.hb rfl (j4 (aC (λ oh=>?_) (λ oh=>?_))))
         ·refine aA qT (have hs:=hs.drew;aB (v:=.int .i64 (numOf s a j)) bL hs.hb rfl (Px (by omega) ?_));obtain ⟨ari,Xh⟩:∃ xx,(lf (s))[((j:Int)).toNat]? = some xx:=⟨_,List.getElem?_eq_getElem (by rw [dY]; omega)⟩;refine lH gH (by omega) Xh ?_;obtain rfl:=Option.some.inj (Xh.symm.trans (show (lf s)[((j:Int)).toNat]? = some cj from Cn));refine W8 (by omega) (Sx xy oJ (by omega) (aO (by omega) (aA qT (aV hs bL (eF rfl) (rfl) (λ Cd hs=>?_)))));have hs:=hs.enc (cs':=Flat.enc ({ (⟨2,ByteArray.mk #[],(numOf s a j),(a:Int)⟩:bF) with n:=((10 * (numOf s a j))+((ari.toNat:Int) - 48))}:bF)) rfl
          have hs:=hs.p1.p1;rw [yJ haj Cn,if_pos oh];exact hs
         ·have hs:=hs.p1.p1;rw [yJ haj Cn,if_neg oh];exact hs
        ·intro Il hs dd6;refine aO (by omega) ?_
         exact ⟨_,by omega,j+1,rfl,rfl,by omega,by omega,gk.trans (EZ Cn SA),λ i c h1 h2 h3=>by
          by_cases e:i=j
          ·subst e; obtain rfl:=Option.some.inj (h3.symm.trans Cn); omega
          ·exact hdg i c h1 (by omega) h3,hs⟩
       ·have I5:vD vB s j=j:=by
         by_cases hjs:j<s.size
         ·obtain ⟨cj,QN⟩:∃ c,(lf s)[j]? = some c:=⟨_,List.getElem?_eq_getElem (by rw [dY]; exact hjs)⟩;rw [QN] at qm; exact E0 QN qm
         ·exact I2 (by omega)
        refine aA qT (aB (v:=.int .i64 (numOf s a j)) bL hs.hb rfl (cZ (aC (λ zM=>?_) (λ zM=>?_))))
        ·have hs:=((hs.drop)).drop;have hR:=I4 hp Yr Mw hda (by rw [gk,I5]; omega);subst hR;exact ⟨_,rfl,hs.fX.fresh⟩
        ·have hs:=hs.p1.p1
         have hgt:a<j:=by
          rcases Nat.lt_or_ge a j with h | h
          ·exact h
          ·obtain rfl:j=a:=by omega
           rw [Yr] at qm; have h9:vB gQ=false:=qm; unfold vB at h9; rw [hda] at h9; cases h9
         have Xg:=Xe hp Yr Mw hda (by rw [gk,I5]; omega) (by rw [gk,I5]; exact hgt);rw [gk,I5] at Xg;exact ⟨2,j,_,rfl,Xg,hs⟩
     ·have hda:=BP;have hsb:=Xf s a gQ;have hsi:=QO Yr;refine aA kZ (aV hs bL (eF rfl) (rfl) (λ Jo hs=>have hs:=hs.enc (cs':=Flat.enc ({ (⟨0,(ByteArray.mk #[]),0,(a:Int)⟩:bF) with kind:=3}:bF)) rfl;aZ anh hs (C210 s a gQ _ Yi Yr) (λ KA he hs=>aO (by omega) (aH (aC (λ Wk=>?_) (λ Wk=>?_))))))
      ·have hs:=((hs.drop)).drop;have hR:=SD hp Yr Mw hda (by omega);subst hR;exact ⟨_,rfl,hs.fX.fresh⟩
      ·have hs:=hs.p1.p1;have Xg:=SE hp Yr Mw hda (by omega);exact ⟨3,a+(pO s a gQ).toNat,0,by congr 1; omega,Xg,hs⟩
   ·rintro _ Mx ⟨kd,e,n,rfl,Xg,hs⟩ dd7;have ays:=Xg;obtain ⟨h1e0,h2e0,_⟩:=ays;refine Ks gH (by omega) (by omega) (by omega) (aA mX (aV hs j5 (eF rfl) (rfl) (λ Qp hs=>have hs:=hs.enc (cs':=Flat.enc ({ (⟨kd,ByteArray.mk #[],n,(a:Int)⟩:bF) with text:=((s).extract ((a:Int)).toNat ((e:Int)).toNat)}:bF)) rfl;aD aeM hs.At (bW ([(⟨kd,s.extract (a:Int).toNat (e:Int).toNat,n,(a:Int)⟩:bF)]) hs fz rfl rfl (eF rfl) (λ aj7 Tn hs=>?_)))));have adn:=(hs).fK;refine cN hs.p2 fz adn (by simp; omega) (by decide) (λ aj8 VF hs=>?_);have hs:=hs.p1.drop;obtain ⟨h1e,h2e,a2,Yg,Yz⟩:=Xg
    have ayt:=Aw Yg h2e;refine aZ aex hs (C209 s e (s.size+1) a2 _ (by omega) (by omega) Yg) (λ R7 he hs=>?_);have hs:=(hs.p1).drop;exact ⟨k,by omega,a2,_,rfl,ayt.2,by simp; omega,Yz,hs⟩
  ·have hR:=SB hp (by omega);subst hR;exact ⟨_,rfl,hs.fresh⟩
structure fB where
 l:(List cW)
 to:Int
 e:Int
 at_:Int
deriving DecidableEq
structure dP where
 l:SV
 to:Int
 e:Int
 at_:Int
instance:Flat dP where
 agg:=true
 sz:=4
 enc e:=[.slice e.l.a e.l.n e.l.cap,.int .i64 e.to,.int .i64 e.e,.int .i64 e.at_]
 val e:=.agg [.slice e.l.a e.l.n e.l.cap,.int .i64 e.to,.int .i64 e.e,.int .i64 e.at_].toArray
 pos:=by decide
 len _:=rfl
 one a v h:=by simp at h; rcases h with rfl | rfl | rfl | rfl <;> rfl
 nO _ _:=rfl
 oy h:=by cases h
instance:cA fB dP where
 dr w s x:=∃ (l_:SV),s=(⟨l_,x.to,x.e,x.at_⟩:dP)∧DL w (Flat.val l_) x.l
 ext h e:=by
  obtain ⟨g0,rfl,h0⟩:=h
  exact ⟨g0,rfl,h0.ext e⟩
theorem kU {w:World} {sh:dP} {x:fB} (h:cA.dr w sh x):DL w (Flat.val sh.l) x.l:=by obtain ⟨_,rfl,h⟩:=h; exact h
def qd (n:Int):List Int:=if n=0 then [15] else if n=1 then [14] else if n=2 then [10,11,12,13] else if n=3 then [5,6] else [7,8,9]
def CM:List ByteArray:=[⟨#[]⟩,⟨#[]⟩,⟨#[]⟩,⟨#[45]⟩,⟨#[33]⟩,⟨#[43]⟩,⟨#[45]⟩,⟨#[42]⟩,⟨#[47]⟩,⟨#[37]⟩,⟨#[61,61]⟩,⟨#[33,61]⟩,⟨#[60]⟩,⟨#[60,61]⟩,⟨#[38,38]⟩,⟨#[124,124]⟩]
def LP (k:Int):ByteArray:=(CM[k.toNat]?).getD ⟨#[]⟩
def gi (l:List bF) (i e:Int):fB:=⟨[],0,if (l.length:Int)≤i then 6 else e,mL l i⟩
abbrev arj (r:fB) (w:World):=qg λ v w'=>∃ sh:dP,v=Flat.val sh∧lW (eX (λ w=>cA.dr w sh r)) w w'
def aj9 (l:List bF) (rec:Int→Int→Int→Option fB):Prop:=∀ (lv:Value) (i d n:Int) (r:fB) (w:World),eI (λ _=>True) w lv l→rec i d n=some r→0≤i∧i≤l.length→0≤d∧d≤12→0≤n∧n≤5→
 Calls PG 235 [lv,.int .i64 i,.int .i64 d,.int .i64 n].toArray w (arj r w)∧(n=5→Calls PG 257 [lv,.int .i64 i,.int .i64 d].toArray w (arj r w))
structure iu (l:List bF):Prop where
 n:l.length≤5000
 at_:∀ x∈l,0≤x.at_∧x.at_≤1000000∧x.text.size≤1000000
def SG (l:List bF) (i:Int):Bool:=sC l i ⟨#[33]⟩ || sC l i ⟨#[45]⟩
def o0 (rec:Int→Int→Int→Option fB) (l:List bF) (i d:Int):Option fB:=
 match (if (l.length:Int)≤i then none else l[i.toNat]?) with
 | none=>some (gi l i 6)
 | some t=>if ((SG l i || sC l i ⟨#[40]⟩) && decide (d=12))=true then some (gi l i 7)
  else if SG l i=true then (rec (i+1) (d+1) 5).bind λ x=>if x.l.length≤10000 then some (if x.e≠0 then x else {x with l:=[⟨if t.text=⟨#[45]⟩ then 3 else 4,0,⟨#[]⟩,t.at_⟩]++x.l}) else none
  else if sC l i ⟨#[40]⟩=true then (rec (i+1) (d+1) 0).bind λ x=>some (if x.e≠0 then x else if sC l x.to ⟨#[41]⟩=true then {x with to:=x.to+1} else gi l x.to 5)
  else if t.kind=2 then some ⟨[⟨1,t.n,⟨#[]⟩,t.at_⟩],i+1,0,0⟩
  else if (decide (t.kind=1) && jY t.text)=true then some ⟨[⟨2,0,t.text,t.at_⟩],i+1,0,0⟩
  else some (gi l i 5)
def E2 (l:List bF) (to n:Int) (k:Nat):Int:=((qd n).take k).foldl (λ op f=>if sC l to (LP f)=true then f else op) 0
def I6 (l:List bF) (to n:Int):Int:=E2 l to n (qd n).length
theorem Hc {l:List bF} {to n:Int} {k:Nat} {f:Int} (h:(qd n)[k]? = some f):E2 l to n (k+1)=if sC l to (LP f)=true then f else E2 l to n k:=by
 unfold E2; rw [List.take_add_one,h,Option.toList_some,List.foldl_append]; rfl
def vr (rec:Int→Int→Int→Option fB) (l:List bF) (d n:Int):Nat→fB→Option fB
 | 0,_=>none
 | k+1,x=>if x.e≠0 then some x else if I6 l x.to n=0 then some x else match (if 0≤x.to then l[x.to.toNat]? else none) with
  | none=>none
  | some t=>match rec (x.to+1) d (n+1) with
   | none=>none
   | some y=>if y.e≠0 then some y else if x.l.length+y.l.length≤10000 then
     (if n=2 then some ⟨[⟨I6 l x.to n,0,⟨#[]⟩,t.at_⟩]++x.l++y.l,y.to,0,0⟩ else vr rec l d n k ⟨[⟨I6 l x.to n,0,⟨#[]⟩,t.at_⟩]++x.l++y.l,y.to,0,0⟩) else none
def Hd (l:List bF):Nat→Int→Int→Int→Option fB
 | 0,_,_,_=>none
 | k+1,i,d,n=>if n=5 then o0 (Hd l k) l i d else (Hd l k i d (n+1)).bind (vr (Hd l k) l d n k)
theorem Xi {n:Int} {k:Nat} {f:Int} (h:(qd n)[k]? = some f):5≤f∧f≤15:=by
 have hm:=List.mem_of_getElem? h
 unfold qd at hm
 repeat' split at hm
 all_goals (simp at hm; omega)
section
variable {rec:Int→Int→Int→Option fB} {l:List bF} {i d n:Int} {r x y:fB} {t:bF} {k:Nat}
theorem Ov (h:o0 rec l i d=some r) (hl:(l.length:Int)≤i):r=gi l i 6:=by
 unfold o0 at h; rw [if_pos hl] at h; exact (Option.some.inj h).symm
theorem LQ (h:o0 rec l i d=some r) (hl:¬ (l.length:Int)≤i) (ht:l[i.toNat]? = some t) (hd:((SG l i || sC l i ⟨#[40]⟩) && decide (d=12))=true):r=gi l i 7:=by
 unfold o0 at h; rw [if_neg hl,ht] at h; dsimp only at h; rw [if_pos hd] at h; exact (Option.some.inj h).symm
theorem SH (h:o0 rec l i d=some r) (hl:¬ (l.length:Int)≤i) (ht:l[i.toNat]? = some t) (hd:((SG l i || sC l i ⟨#[40]⟩) && decide (d=12))=false) (hu:SG l i=true) :
  ∃ x,rec (i+1) (d+1) 5=some x∧x.l.length≤10000∧r=if x.e≠0 then x else {x with l:=[⟨if t.text=⟨#[45]⟩ then 3 else 4,0,⟨#[]⟩,t.at_⟩]++x.l}:=by
 unfold o0 at h; rw [if_neg hl,ht] at h; dsimp only at h; rw [if_neg (by rw [hd]; simp),if_pos hu] at h
 cases hr:rec (i+1) (d+1) 5 with
 | none=>rw [hr] at h; cases h
 | some x=>
  rw [hr] at h
  by_cases hx:x.l.length≤10000
  ·exact ⟨x,rfl,hx,by simpa [hx] using h.symm⟩
  ·simp [hx] at h
theorem LR (h:o0 rec l i d=some r) (hl:¬ (l.length:Int)≤i) (ht:l[i.toNat]? = some t) (hd:((SG l i || sC l i ⟨#[40]⟩) && decide (d=12))=false) (hu:SG l i=false) (ho:sC l i ⟨#[40]⟩=true) :
  ∃ x,rec (i+1) (d+1) 0=some x∧r=if x.e≠0 then x else if sC l x.to ⟨#[41]⟩=true then {x with to:=x.to+1} else gi l x.to 5:=by
 unfold o0 at h; rw [if_neg hl,ht] at h; dsimp only at h; rw [if_neg (by rw [hd]; simp),if_neg (by rw [hu]; simp),if_pos ho] at h
 cases hr:rec (i+1) (d+1) 0 with
 | none=>rw [hr] at h; cases h
 | some x=>rw [hr] at h; exact ⟨x,rfl,(Option.some.inj h).symm⟩
theorem LS (h:o0 rec l i d=some r) (hl:¬ (l.length:Int)≤i) (ht:l[i.toNat]? = some t) (hd:((SG l i || sC l i ⟨#[40]⟩) && decide (d=12))=false) (hu:SG l i=false) (ho:sC l i ⟨#[40]⟩=false) :
  r=if t.kind=2 then ⟨[⟨1,t.n,⟨#[]⟩,t.at_⟩],i+1,0,0⟩ else if (decide (t.kind=1) && jY t.text)=true then ⟨[⟨2,0,t.text,t.at_⟩],i+1,0,0⟩ else gi l i 5:=by
 unfold o0 at h; rw [if_neg hl,ht] at h; dsimp only at h; rw [if_neg (by rw [hd]; simp),if_neg (by rw [hu]; simp),if_neg (by rw [ho]; simp)] at h
 split at h
 ·rename_i h1; rw [if_pos h1]; exact (Option.some.inj h).symm
 ·rename_i h1; rw [if_neg h1]
  split at h
  ·rename_i h2; rw [if_pos h2]; exact (Option.some.inj h).symm
  ·rename_i h2; rw [if_neg h2]; exact (Option.some.inj h).symm
theorem Ow (h:vr rec l d n k x=some r):∃ j,k=j+1:=by
 cases k with
 | zero=>cases h
 | succ j=>exact ⟨j,rfl⟩
theorem ado (h:vr rec l d n (k+1) x=some r) (he:x.e≠0):r=x:=by
 unfold vr at h; rw [if_pos he] at h; exact (Option.some.inj h).symm
theorem Xj (h:vr rec l d n (k+1) x=some r) (he:¬ x.e≠0) (ho:I6 l x.to n=0):r=x:=by
 unfold vr at h; rw [if_neg he,if_pos ho] at h; exact (Option.some.inj h).symm
theorem Xk (h:vr rec l d n (k+1) x=some r) (he:¬ x.e≠0) (ho:¬ I6 l x.to n=0):∃ t y,0≤x.to∧l[x.to.toNat]? = some t∧rec (x.to+1) d (n+1)=some y∧(y.e≠0→r=y)∧
  (¬ y.e≠0→x.l.length+y.l.length≤10000∧(n=2→r=⟨[⟨I6 l x.to n,0,⟨#[]⟩,t.at_⟩]++x.l++y.l,y.to,0,0⟩)∧(¬ n=2→vr rec l d n k ⟨[⟨I6 l x.to n,0,⟨#[]⟩,t.at_⟩]++x.l++y.l,y.to,0,0⟩=some r)):=by
 unfold vr at h; rw [if_neg he,if_neg ho] at h
 by_cases h0:0≤x.to
 ·rw [if_pos h0] at h
  cases ht:l[x.to.toNat]? with
  | none=>rw [ht] at h; cases h
  | some t=>
   rw [ht] at h; dsimp only at h
   cases hr:rec (x.to+1) d (n+1) with
   | none=>rw [hr] at h; cases h
   | some y=>
    rw [hr] at h; dsimp only at h
    refine ⟨t,y,h0,rfl,rfl,λ hy=>?_,λ hy=>?_⟩
    ·rw [if_pos hy] at h; exact (Option.some.inj h).symm
    ·rw [if_neg hy] at h
     by_cases hl:x.l.length+y.l.length≤10000
     ·rw [if_pos hl] at h
      refine ⟨hl,λ h2=>?_,λ h2=>?_⟩
      ·rw [if_pos h2] at h; exact (Option.some.inj h).symm
      ·rw [if_neg h2] at h; exact h
     ·rw [if_neg hl] at h; cases h
 ·rw [if_neg h0] at h; cases h
theorem af8 (h:Hd l (k+1) i d 5=some r):o0 (Hd l k) l i d=some r:=by unfold Hd at h; rw [if_pos rfl] at h; exact h
theorem ark (h:Hd l (k+1) i d n=some r) (hn:¬ n=5):∃ x,Hd l k i d (n+1)=some x∧vr (Hd l k) l d n k x=some r:=by
 unfold Hd at h; rw [if_neg hn] at h
 cases hx:Hd l k i d (n+1) with
 | none=>rw [hx] at h; cases h
 | some x=>rw [hx] at h; exact ⟨x,rfl,h⟩
end
def vt (l:List bF) (i:Int):Option (List cW × Int × Int × Int):=if i<0 then some ([],0,1,0) else (Hd l 10000 i 0 0).bind λ x=>
 if x.e≠0 then some ([],0,x.e,x.at_) else match yn x.l,l[i.toNat]? with
  | some t,some k=>if x.l.length≤10000 then (if 12<t.depth then some ([],0,7,k.at_) else if 40<x.l.length then some ([],0,2,k.at_) else some (x.l,x.to,0,0)) else none
  | _,_=>none
theorem Ox (n:Int):(qd n).length≤4:=by
 unfold qd
 repeat' split
 all_goals simp
theorem C258 (n:Int) (w:World) (hn:0≤n∧n≤4):CR 258 [.int .i64 n] w (λ v w'=>lW (bK v (qd n)) w w'):=by
 have hs:=St.start w;refine aa0 _ _ _ ?_;unfold S258;refine bW (([15]:List Int)) hs ee rfl rfl (eF rfl) (λ arl w1 hs=>bW (([14]:List Int)) hs ee rfl rfl (eF rfl) (λ awn w2 hs=>bW (([10,11,12,13]:List Int)) hs ee rfl rfl (eF rfl) (λ Io w3 hs=>bW (([5,6]:List Int)) hs ee rfl rfl (eF rfl) (λ acj w4 hs=>bW (([7,8,9]:List Int)) hs ee rfl rfl (eF rfl) (λ KV w5 hs=>?_)))));obtain ⟨QP,rfl⟩:=(hs.p4).fQ;obtain ⟨CH,rfl⟩:=(hs.p3).fQ;obtain ⟨QQ,rfl⟩:=(hs.p2).fQ;obtain ⟨QR,rfl⟩:=(hs.p1).fQ;obtain ⟨QS,rfl⟩:=(hs).fQ;refine bW ([QP,CH,QQ,QR,QS]) hs xP rfl rfl (eF rfl) (λ xH w6 hs=>?_)
 have hs:=((((((((((((hs.abp (α:=Int))).p6).p1).Dy).p5).p1).Dy).p4).p1).Dy).p3).p1;have hs:=hs.Dy.p2.p1.Dy;obtain rfl | rfl | rfl | rfl | rfl:n=0∨n=1∨n=2∨n=3∨n=4:=by omega
 ·have adp:=hs.zx;refine dS hs.p1 xP (by decide) (by simp) (λ QT qn=>gj hs.p1 en qn (show _=some QP from rfl) ?_);have hs:=hs.split;exact hs.fresh
 ·have adp:=hs.zx;refine dS hs.p1 xP (by decide) (by simp) (λ QT qn=>gj hs.p1 en qn (show _=some CH from rfl) ?_);have hs:=hs.split.drop.split;exact hs.fresh
 ·have adp:=hs.zx;refine dS hs.p1 xP (by decide) (by simp) (λ QT qn=>gj hs.p1 en qn (show _=some QQ from rfl) ?_);have hs:=hs.split.drop.split.drop.split;exact hs.fresh
 ·have adp:=hs.zx;refine dS hs.p1 xP (by decide) (by simp) (λ QT qn=>gj hs.p1 en qn (show _=some QR from rfl) ?_);have hs:=hs.split.drop.split.drop.split.drop.split;exact hs.fresh
 ·have adp:=hs.zx;refine dS hs.p1 xP (by decide) (by simp) (λ QT qn=>gj hs.p1 en qn (show _=some QS from rfl) ?_);have hs:=hs.split.drop.split.drop.split.drop.split.drop.split;exact hs.fresh
theorem C259 (k:Int) (w:World) (hk:0≤k∧k≤15):CR 259 [.int .i64 k] w (λ v w'=>v = .string (LP k)∧Ext w w'):=by
 have hs:=St.start w;refine aa1 _ _ _ ?_;unfold S259;refine bW (CM) hs mS rfl rfl (eF rfl) (λ arl w1 hs=>?_);have hsl:CM.length=16:=rfl;obtain ⟨ayu,LU⟩:=gx (CM) (i:=(k).toNat) (by omega);refine dS hs mS (by omega) (by omega) (λ _ Sc=>gj hs j5 Sc LU ?_);refine ⟨?_,hs.drop.aF⟩;unfold LP;rw [LU]; rfl
theorem C263 (lv:Value) (l:List bF) (i e:Int) (w:World) (hL:eI (λ _=>True) w lv l) (hk:iu l):CR 263 [lv,.int .i64 i,.int .i64 e] w (λ v w'=>∃ sh:dP,v=Flat.val sh∧lW (eX (λ w=>cA.dr w sh (gi l i e))) w w'):=by
 have Fm:=hk.n;have hn:l.length≤1000000:=by omega
 have sR:=hk.at_;have hs:=St.start w;refine aa5 _ _ _ _ _ ?_;unfold S263;refine aN hs r7 (λ N6 w1 hs=>?_);have hs:=hs.enc (cs':=Flat.enc (⟨⟨none,0,0⟩,0,0,0⟩:dP)) rfl;refine ⟨λ jv w'=>jv = .int .i64 (if (l.length:Int)≤i then 6 else e)∧w1=w',?_,?_⟩
 ·refine aJ fz (hL.ext hs.aF) (dG (aC (λ fO=>?_) (λ fO=>?_)))
  ·exact ⟨by rw [if_pos (by omega)],rfl⟩
  ·exact ⟨by rw [if_neg (by omega)],rfl⟩
 ·rintro _ w2 ⟨rfl,hw⟩ fy;subst hw;refine aZ Gg hs (C215 _ l i _ (hL.ext hs.aF) hn sR) (λ w3 he hs=>pop (Nc _ _) (aI (x:=(⟨⟨none,0,0⟩,0,(if (l.length:Int)≤i then 6 else e),(mL l i)⟩:dP)) hs fT rfl rfl (λ w4 hs=>aD fT hs.At ?_)));have hs:=hs.gE (Φ:=(λ w=>cA.dr w (⟨⟨none,0,0⟩,0,(if (l.length:Int)≤i then 6 else e),(mL l i)⟩:dP) (⟨[],0,(if (l.length:Int)≤i then 6 else e),(mL l i)⟩:fB))) (λ w=>⟨_,rfl,DL.nil _⟩);have hs:=(hs.p1).drop;exact ⟨_,rfl,hs.fresh⟩
set_option maxHeartbeats 2000000 in
theorem C257 (l:List bF) (rec:Int→Int→Int→Option fB) (lv:Value) (i d:Int) (r:fB) (w:World) (hL:eI (λ _=>True) w lv l) (hk:iu l) (HR:aj9 l rec) (h0:0≤i∧i≤l.length) (hd:0≤d∧d≤12) (hr:o0 rec l i d=some r):CR 257 [lv,.int .i64 i,.int .i64 d] w (λ v w'=>∃ sh:dP,v=Flat.val sh∧lW (eX (λ w=>cA.dr w sh r)) w w'):=by
 have Fm:=hk.n;have hn:l.length≤1000000:=by omega
 have sR:=hk.at_;have hs:=St.start w;refine aaZ _ _ _ _ _ ?_;unfold S257;refine aN hs r7 (λ N6 w1 hs=>have hs:=hs.enc (cs':=Flat.enc (⟨⟨none,0,0⟩,0,0,0⟩:dP)) rfl;aJ fz (hL.ext hs.aF) (dG (aC (λ eA=>?_) (λ eA=>?_))))
 ·refine ey Pw (C263 _ l i 6 _ (hL.ext hs.aF) hk) ?_;rintro _ w2 ⟨Oy,rfl,bZ⟩;have hs:=hs.made bZ;obtain ⟨Az,Oz,_⟩:=(hs).eX;subst Oz;refine aI (x:=(⟨Az,((gi l i 6)).to,((gi l i 6)).e,((gi l i 6)).at_⟩:dP)) hs.p1 fT rfl rfl (λ w3 hs=>aD fT hs.At ?_);have hR:r=(⟨((gi l i 6)).l,((gi l i 6)).to,((gi l i 6)).e,((gi l i 6)).at_⟩:fB):=Ov hr (by omega);rw [hR];have hs:=hs.p1.dN (Ψ:=(λ w=>cA.dr w (⟨Az,((gi l i 6)).to,((gi l i 6)).e,((gi l i 6)).at_⟩:dP) (⟨((gi l i 6)).l,((gi l i 6)).to,((gi l i 6)).e,((gi l i 6)).at_⟩:fB))) (λ w h=>⟨_,rfl,kU (h)⟩)
  have hs:=(hs.p1).drop;exact ⟨_,rfl,hs.fresh⟩
 ·obtain ⟨t,ht⟩:∃ t,l[i.toNat]? = some t:=⟨_,List.getElem?_eq_getElem (by omega)⟩;have hta:=sR t (List.mem_of_getElem? ht);refine ⟨λ jv w'=>jv = .bool (SG l i)∧St w bD [cD N6 (Flat.enc (⟨⟨none,0,0⟩,0,0,0⟩:dP))] w',?_,?_⟩
  ·refine aZ vg hs (C211 _ l i (ByteArray.mk #[33]) _ (hL.ext hs.aF) hn) (λ w4 he hs=>aX (λ iM=>?_) (λ iM=>?_))
   ·exact ⟨vb (by unfold SG; rw [iM]; rfl),hs⟩
   ·refine aZ vg hs (C211 _ l i (ByteArray.mk #[45]) _ (hL.ext hs.aF) hn) (λ w5 he hs=>?_);exact ⟨vb (by unfold SG; rw [iM]; rfl),hs⟩
  ·rintro _ w6 ⟨rfl,hs⟩ fy;refine aZ vg hs (C211 _ l i (ByteArray.mk #[40]) _ (hL.ext hs.aF) hn) (λ w7 he hs=>?_);refine ⟨λ jv w'=>jv = .bool ((SG l i || sC l i (ByteArray.mk #[40])) && decide (d=12))∧St w bD [cD N6 (Flat.enc (⟨⟨none,0,0⟩,0,0,0⟩:dP))] w',?_,?_⟩
   ·refine aX (λ nF=>?_) (λ nF=>?_)
    ·refine aH ?_;exact ⟨vb (by first | (rw [nF]; simp; done) | (rw [nF,nA]; simp; done) | (rw [nF]; rfl) | (rw [nF,nA]; rfl)),hs⟩
    ·refine aX (λ nA=>?_) (λ nA=>?_)
     ·refine aH ?_;exact ⟨vb (by first | (rw [nF]; simp; done) | (rw [nF,nA]; simp; done) | (rw [nF]; rfl) | (rw [nF,nA]; rfl)),hs⟩
     ·exact ⟨vb (by first | (rw [nF]; simp; done) | (rw [nF,nA]; simp; done) | (rw [nF]; rfl) | (rw [nF,nA]; rfl)),hs⟩
   ·rintro _ w8 ⟨rfl,hs⟩ jw;refine aX (λ m7=>?_) (λ m7=>?_)
    ·refine ey Pw (C263 _ l i 7 _ (hL.ext hs.aF) hk) ?_;rintro _ w9 ⟨ayv,rfl,bZ⟩;have hs:=hs.made bZ;obtain ⟨QU,aka,_⟩:=(hs).eX;subst aka;refine aI (x:=(⟨QU,((gi l i 7)).to,((gi l i 7)).e,((gi l i 7)).at_⟩:dP)) hs.p1 fT rfl rfl (λ pQ hs=>aD fT hs.At ?_);have hR:r=(⟨((gi l i 7)).l,((gi l i 7)).to,((gi l i 7)).e,((gi l i 7)).at_⟩:fB):=LQ hr (by omega) ht m7;rw [hR];have hs:=hs.p1.dN (Ψ:=(λ w=>cA.dr w (⟨QU,((gi l i 7)).to,((gi l i 7)).e,((gi l i 7)).at_⟩:dP) (⟨((gi l i 7)).l,((gi l i 7)).to,((gi l i 7)).e,((gi l i 7)).at_⟩:fB))) (λ w h=>⟨_,rfl,kU (h)⟩)
     have hs:=(hs.p1).drop;exact ⟨_,rfl,hs.fresh⟩
    ·refine aX (λ nF=>?_) (λ nF=>?_)
     ·refine aO (by omega) (aO (by omega) ?_);have ayw:¬ d=12:=λ h=>by rw [nF,decide_eq_true h] at m7; cases m7
      obtain ⟨x1,hx1,O7,hrx⟩:=SH hr (by omega) ht m7 nF;refine ey aeD ((HR _ (i+1) (d+1) 5 x1 _ (hL.ext hs.aF) hx1 (by omega) (by omega) (by omega)).2 rfl) ?_;rintro _ sP ⟨ayx,rfl,bZ⟩;have hs:=hs.made bZ;obtain ⟨CN,akb,_⟩:=(hs).eX;subst akb;refine aN hs r7 (λ DJ vi hs=>have hs:=hs.enc (cs':=Flat.enc (⟨⟨none,0,0⟩,0,0,0⟩:dP)) rfl;aI (x:=(⟨CN,(x1).to,(x1).e,(x1).at_⟩:dP)) hs fT rfl rfl (λ vj hs=>aA tO (aB (v:=.int .i64 (x1).e) nj hs.hb rfl (cS (aC (λ pF=>?_) (λ pF=>?_))))))
      ·refine aD fT hs.At (aI (x:=(⟨CN,(x1).to,(x1).e,(x1).at_⟩:dP)) hs.p2 fT rfl rfl (λ sd hs=>aD fT hs.At ?_));have hR:r=(⟨(x1).l,(x1).to,(x1).e,(x1).at_⟩:fB):=hrx.trans (if_pos pF);rw [hR];have hs:=hs.p2.dN (Ψ:=(λ w=>cA.dr w (⟨CN,(x1).to,(x1).e,(x1).at_⟩:dP) (⟨(x1).l,(x1).to,(x1).e,(x1).at_⟩:fB))) (λ w h=>⟨_,rfl,kU (h)⟩);have hs:=((hs.p1.drop).p1).drop;exact ⟨_,rfl,hs.fresh⟩
      ·refine ⟨λ jv w'=>jv = .int .i64 (if t.text=ByteArray.mk #[45] then 3 else 4)∧vj=w',?_,?_⟩
       ·refine aQ fz (hL.ext hs.aF) (by omega) ht (λ _ DK=>bP (t).text mX DK rfl rfl (λ _ Lv=>aD j5 (Lv) (tS (aC (λ tZ=>?_) (λ tZ=>?_)))))
        ·exact ⟨by rw [if_pos tZ],rfl⟩
        ·exact ⟨by rw [if_neg tZ],rfl⟩
       ·rintro _ vW ⟨rfl,hw⟩ oN;subst hw;obtain ⟨op,af9⟩:∃ op,op=(if t.text=ByteArray.mk #[45] then (3:Int) else 4):=⟨_,rfl⟩;rw [← af9];refine aQ fz (hL.ext hs.aF) (by omega) ht (λ _ EB=>bP (t).at_ ld EB rfl rfl (λ _ D6=>aD bL (D6) (pop (Dv _ _) (bW ([(⟨op,0,(ByteArray.mk #[]),(t).at_⟩:cW)]) hs lP rfl rfl (eF rfl) (λ s_x66 yM hs=>aA qU (aB (v:=Flat.val (CN:SV)) mR hs.p1.hb rfl ?_))))));have Bi:=(DL.flat (kU (hs.p2).eX));refine cN hs lP Bi (by simp; omega) (by decide) (λ afQ Cd hs=>aA qU ?_);obtain ⟨OA,rfl⟩:=(hs).fQ
        refine aV hs.p1 mR (eF rfl) (rfl) (λ Il hs=>have hs:=hs.enc (cs':=Flat.enc (⟨OA,(x1).to,(x1).e,(x1).at_⟩:dP)) rfl;aD fT hs.At (aI (x:=(⟨OA,(x1).to,(x1).e,(x1).at_⟩:dP)) hs.p3 fT rfl rfl (λ Jo hs=>aD fT hs.At ?_)));have hR:r=(⟨([(⟨op,0,(ByteArray.mk #[]),(t).at_⟩:cW)]++(x1).l),(x1).to,(x1).e,(x1).at_⟩:fB):=by rw [hrx,if_neg pF,← af9]
        rw [hR];have hs:=hs.p2.freeze.dN (Ψ:=(λ w=>cA.dr w (⟨OA,(x1).to,(x1).e,(x1).at_⟩:dP) (⟨([(⟨op,0,(ByteArray.mk #[]),(t).at_⟩:cW)]++(x1).l),(x1).to,(x1).e,(x1).at_⟩:fB))) (λ w h=>⟨_,rfl,DL.fp h⟩);have hs:=(((hs.p1.drop.p1).drop).p1).drop;exact ⟨_,rfl,hs.fresh⟩
     ·refine aX (λ nA=>?_) (λ nA=>?_)
      ·refine aO (by omega) (aO (by omega) ?_);have ayw:¬ d=12:=λ h=>by rw [nF,nA,decide_eq_true h] at m7; cases m7
       obtain ⟨x1,hx1,hrx⟩:=LR hr (by omega) ht m7 nF nA;refine ey Pv ((HR _ (i+1) (d+1) 0 x1 _ (hL.ext hs.aF) hx1 (by omega) (by omega) (by omega)).1) ?_;rintro _ KA ⟨ayy,rfl,bZ⟩;have hs:=hs.made bZ;obtain ⟨xl,akc,_⟩:=(hs).eX;subst akc;refine aN hs r7 (λ PU Mx hs=>have hs:=hs.enc (cs':=Flat.enc (⟨⟨none,0,0⟩,0,0,0⟩:dP)) rfl;aI (x:=(⟨xl,(x1).to,(x1).e,(x1).at_⟩:dP)) hs fT rfl rfl (λ Qp hs=>aA tO (aB (v:=.int .i64 (x1).e) nj hs.hb rfl (cS (aC (λ QV=>?_) (λ QV=>?_))))))
       ·refine aD fT hs.At (aI (x:=(⟨xl,(x1).to,(x1).e,(x1).at_⟩:dP)) hs.p2 fT rfl rfl (λ Tn hs=>aD fT hs.At ?_));have hR:r=(⟨(x1).l,(x1).to,(x1).e,(x1).at_⟩:fB):=hrx.trans (if_pos QV);rw [hR];have hs:=hs.p2.dN (Ψ:=(λ w=>cA.dr w (⟨xl,(x1).to,(x1).e,(x1).at_⟩:dP) (⟨(x1).l,(x1).to,(x1).e,(x1).at_⟩:fB))) (λ w h=>⟨_,rfl,kU (h)⟩);have hs:=((hs.p1.drop).p1).drop;exact ⟨_,rfl,hs.fresh⟩
       ·refine aA nW (aB (v:=.int .i64 (x1).to) bL hs.hb rfl (aZ vg hs (C211 _ l (x1).to (ByteArray.mk #[41]) _ (hL.ext hs.aF) hn) (λ VF he hs=>bY (aX (λ QW=>?_) (λ QW=>?_)))))
        ·refine aA nW (aB (v:=.int .i64 (x1).to) bL hs.hb rfl (ey Pw (C263 _ l (x1).to 5 _ (hL.ext hs.aF) hk) ?_));rintro _ R7 ⟨ayz,rfl,bZ⟩;have hs:=hs.made bZ;obtain ⟨QX,akd,_⟩:=(hs).eX;subst akd;refine aI (x:=(⟨QX,((gi l (x1).to 5)).to,((gi l (x1).to 5)).e,((gi l (x1).to 5)).at_⟩:dP)) hs.p3 fT rfl rfl (λ w26 hs=>aD fT hs.At ?_);have hR:r=(⟨((gi l (x1).to 5)).l,((gi l (x1).to 5)).to,((gi l (x1).to 5)).e,((gi l (x1).to 5)).at_⟩:fB):=hrx.trans ((if_neg QV).trans (if_neg (by simpa using QW)));rw [hR];have hs:=hs.p1.dN (Ψ:=(λ w=>cA.dr w (⟨QX,((gi l (x1).to 5)).to,((gi l (x1).to 5)).e,((gi l (x1).to 5)).at_⟩:dP) (⟨((gi l (x1).to 5)).l,((gi l (x1).to 5)).to,((gi l (x1).to 5)).e,((gi l (x1).to 5)).at_⟩:fB))) (λ w h=>⟨_,rfl,kU (h)⟩)
         have hs:=(((hs.p1.drop.p1).drop).p1).drop;exact ⟨_,rfl,hs.fresh⟩
        ·refine aA nW (aB (v:=.int .i64 (x1).to) bL hs.hb rfl ?_);have vh:=rG (l:=l) (i:=x1.to) (t:=ByteArray.mk #[41]) (by simpa using QW);refine aO (by omega) (aA nW (aV hs bL (eF rfl) (rfl) (λ w27 hs=>have hs:=hs.enc (cs':=Flat.enc (⟨xl,((x1).to+1),(x1).e,(x1).at_⟩:dP)) rfl;aD fT hs.At (aI (x:=(⟨xl,((x1).to+1),(x1).e,(x1).at_⟩:dP)) hs.p2 fT rfl rfl (λ w28 hs=>aD fT hs.At ?_)))));have hR:r=(⟨(x1).l,((x1).to+1),(x1).e,(x1).at_⟩:fB):=hrx.trans ((if_neg QV).trans (if_pos (by simpa using QW)));rw [hR];have hs:=hs.p2.dN (Ψ:=(λ w=>cA.dr w (⟨xl,((x1).to+1),(x1).e,(x1).at_⟩:dP) (⟨(x1).l,((x1).to+1),(x1).e,(x1).at_⟩:fB))) (λ w h=>⟨_,rfl,kU (h)⟩)
         have hs:=((hs.p1.drop).p1).drop;exact ⟨_,rfl,hs.fresh⟩
      ·have Qi:=LS hr (by omega) ht m7 nF nA;refine aQ fz (hL.ext hs.aF) (by omega) ht (λ _ ake=>bP (t).kind kZ ake rfl rfl (λ _ akf=>aD bL (akf) (aH (aC (λ I7=>?_) (λ I7=>?_)))))
       ·refine aQ fz (hL.ext hs.aF) (by omega) ht (λ _ akg=>bP (t).n qT akg rfl rfl (λ _ akh=>have hs:=hs.drew;aD bL (akh) (aQ fz (hL.ext hs.aF) (by omega) ht (λ _ aki=>bP (t).at_ ld aki rfl rfl (λ _ Nv=>aD bL (Nv) (pop (Ic _ _ _) (aO (by omega) (bW ([(⟨1,(t).n,(ByteArray.mk #[]),(t).at_⟩:cW)]) hs lP rfl rfl (eF rfl) (λ ai8 w29 hs=>?_)))))))));obtain ⟨QY,rfl⟩:=(hs).fQ;refine pop (yl _ _ _ _) (aI (x:=(⟨QY,(i+1),0,0⟩:dP)) hs.p1 fT rfl rfl (λ w30 hs=>aD fT hs.At ?_));have hR:r=(⟨[(⟨1,(t).n,(ByteArray.mk #[]),(t).at_⟩:cW)],(i+1),0,0⟩:fB):=Qi.trans (if_pos I7)
        rw [hR];have hs:=hs.p1.freeze.dN (Ψ:=(λ w=>cA.dr w (⟨QY,(i+1),0,0⟩:dP) (⟨[(⟨1,(t).n,(ByteArray.mk #[]),(t).at_⟩:cW)],(i+1),0,0⟩:fB))) (λ w h=>⟨_,rfl,DL.fp h⟩);have hs:=(hs.p1).drop;exact ⟨_,rfl,hs.fresh⟩
       ·refine ⟨λ jv w'=>jv = .bool (decide (t.kind=1) && jY t.text)∧St w bD [cD N6 (Flat.enc (⟨⟨none,0,0⟩,0,0,0⟩:dP))] w',?_,?_⟩
        ·refine aQ fz (hL.ext hs.aF) (by omega) ht (λ _ akj=>bP (t).kind kZ akj rfl rfl (λ _ akk=>aD bL (akk) (aH (aC (λ yu=>?_) (λ yu=>?_)))))
         ·refine aQ fz (hL.ext hs.aF) (by omega) ht (λ _ akl=>bP (t).text mX akl rfl rfl (λ _ akm=>aD j5 (akm) (aZ tx hs (C161 _ _ (by omega)) (λ w31 he hs=>?_))));exact ⟨vb (by rw [decide_eq_true yu]; rfl),hs⟩
         ·exact ⟨vb (by rw [decide_eq_false yu]; rfl),hs⟩
        ·rintro _ w32 ⟨rfl,hs⟩ GF;refine aX (λ EH=>?_) (λ EH=>?_)
         ·refine aQ fz (hL.ext hs.aF) (by omega) ht (λ _ akn=>bP (t).text mX akn rfl rfl (λ _ ako=>have hs:=hs.drew;aD j5 (ako) (aQ fz (hL.ext hs.aF) (by omega) ht (λ _ akp=>bP (t).at_ ld akp rfl rfl (λ _ Nx=>aD bL (Nx) (pop (Ie _ _ _) (aO (by omega) (bW ([(⟨2,0,(t).text,(t).at_⟩:cW)]) hs lP rfl rfl (eF rfl) (λ ayA w33 hs=>?_)))))))));obtain ⟨QZ,rfl⟩:=(hs).fQ;refine pop (yl _ _ _ _) (aI (x:=(⟨QZ,(i+1),0,0⟩:dP)) hs.p1 fT rfl rfl (λ w34 hs=>aD fT hs.At ?_));have hR:r=(⟨[(⟨2,0,(t).text,(t).at_⟩:cW)],(i+1),0,0⟩:fB):=Qi.trans ((if_neg I7).trans (if_pos EH))
          rw [hR];have hs:=hs.p1.freeze.dN (Ψ:=(λ w=>cA.dr w (⟨QZ,(i+1),0,0⟩:dP) (⟨[(⟨2,0,(t).text,(t).at_⟩:cW)],(i+1),0,0⟩:fB))) (λ w h=>⟨_,rfl,DL.fp h⟩);have hs:=(hs.p1).drop;exact ⟨_,rfl,hs.fresh⟩
         ·refine ey Pw (C263 _ l i 5 _ (hL.ext hs.aF) hk) ?_;rintro _ w35 ⟨atp,rfl,bZ⟩;have hs:=hs.made bZ;obtain ⟨LV,adq,_⟩:=(hs).eX;subst adq;refine aI (x:=(⟨LV,((gi l i 5)).to,((gi l i 5)).e,((gi l i 5)).at_⟩:dP)) hs.p1 fT rfl rfl (λ w36 hs=>aD fT hs.At ?_);have hR:r=(⟨((gi l i 5)).l,((gi l i 5)).to,((gi l i 5)).e,((gi l i 5)).at_⟩:fB):=Qi.trans ((if_neg I7).trans (if_neg (by simpa using EH)));rw [hR];have hs:=hs.p1.dN (Ψ:=(λ w=>cA.dr w (⟨LV,((gi l i 5)).to,((gi l i 5)).e,((gi l i 5)).at_⟩:dP) (⟨((gi l i 5)).l,((gi l i 5)).to,((gi l i 5)).e,((gi l i 5)).at_⟩:fB))) (λ w h=>⟨_,rfl,kU (h)⟩)
          have hs:=(hs.p1).drop;exact ⟨_,rfl,hs.fresh⟩
theorem Xl {l:List bF} {i:Int} {R:List cW × Int × Int × Int} (h:vt l i=some R) (hi:¬ i<0):∃ x,Hd l 10000 i 0 0=some x∧
  (if x.e≠0 then some ([],0,x.e,x.at_) else match yn x.l,l[i.toNat]? with
  | some t,some k=>if x.l.length≤10000 then (if 12<t.depth then some ([],0,7,k.at_) else if 40<x.l.length then some ([],0,2,k.at_) else some (x.l,x.to,0,0)) else none
  | _,_=>none)=some R:=by
 unfold vt at h; rw [if_neg hi] at h
 cases hx:Hd l 10000 i 0 0 with
 | none=>rw [hx] at h; cases h
 | some x=>rw [hx] at h; exact ⟨x,rfl,h⟩
theorem OB {x:fB} {o:Option bF} {R:List cW × Int × Int × Int} (h:(match yn x.l,o with
  | some t,some k=>if x.l.length≤10000 then (if 12<t.depth then some ([],0,7,k.at_) else if 40<x.l.length then some ([],0,2,k.at_) else some (x.l,x.to,0,0)) else none
  | _,_=>none)=some R):∃ t k,yn x.l=some t∧o=some k∧x.l.length≤10000∧(if 12<t.depth then some ([],0,7,k.at_) else if 40<x.l.length then some ([],0,2,k.at_) else some (x.l,x.to,0,0))=some R:=by
 cases he:yn x.l with
 | none=>rw [he] at h; cases h
 | some t=>
  cases o with
  | none=>rw [he] at h; cases h
  | some k=>
   rw [he] at h; dsimp only at h
   split at h
   ·rename_i hl; exact ⟨t,k,rfl,rfl,hl,h⟩
   ·cases h
set_option maxHeartbeats 2000000 in
theorem C235 (l:List bF) (j:Nat) (lv:Value) (i d n:Int) (r:fB) (w:World) (hL:eI (λ _=>True) w lv l) (hk:iu l) (HR:aj9 l (Hd l j)) (h0:0≤i∧i≤l.length) (hd:0≤d∧d≤12) (hnn:0≤n∧n≤5) (hr:Hd l (j+1) i d n=some r):CR 235 [lv,.int .i64 i,.int .i64 d,.int .i64 n] w (λ v w'=>∃ sh:dP,v=Flat.val sh∧lW (eX (λ w=>cA.dr w sh r)) w w'):=by
 have Fm:=hk.n;have hn:l.length≤1000000:=by omega
 have sR:=hk.at_;have hs:=St.start w;refine aaD _ _ _ _ _ _ ?_;unfold S235;refine aN hs r7 (λ A6 w1 hs=>have hs:=hs.enc (cs':=Flat.enc (⟨⟨none,0,0⟩,0,0,0⟩:dP)) rfl;aH (aC (λ jG=>?_) (λ jG=>?_)))
 ·refine ey aeD (C257 l (Hd l j) _ i d r _ (hL.ext hs.aF) hk HR h0 hd (af8 (by rw [jG] at hr; exact hr))) ?_;rintro _ w2 ⟨Oy,rfl,bZ⟩;have hs:=hs.made bZ;obtain ⟨Az,Oz,_⟩:=(hs).eX;subst Oz;refine aI (x:=(⟨Az,(r).to,(r).e,(r).at_⟩:dP)) hs.p1 fT rfl rfl (λ w3 hs=>aD fT hs.At ?_);have hR:r=(⟨(r).l,(r).to,(r).e,(r).at_⟩:fB):=rfl;rw [hR];have hs:=hs.p1.dN (Ψ:=(λ w=>cA.dr w (⟨Az,(r).to,(r).e,(r).at_⟩:dP) (⟨(r).l,(r).to,(r).e,(r).at_⟩:fB))) (λ w h=>⟨_,rfl,kU (h)⟩);have hs:=(hs.p1).drop;exact ⟨_,rfl,hs.fresh⟩
 ·obtain ⟨x1,hx1,ayB⟩:=ark hr jG;refine aO (by omega) (ey Pv ((HR _ i d (n+1) x1 _ (hL.ext hs.aF) hx1 h0 hd (by omega)).1) ?_);rintro _ w4 ⟨ayC,rfl,bZ⟩;have hs:=hs.made bZ;obtain ⟨I8,akq,_⟩:=(hs).eX;subst akq;refine aN hs r7 (λ DJ w5 hs=>have hs:=hs.enc (cs':=Flat.enc (⟨⟨none,0,0⟩,0,0,0⟩:dP)) rfl;aI (x:=(⟨I8,(x1).to,(x1).e,(x1).at_⟩:dP)) hs fT rfl rfl (λ w6 hs=>?_));have hs:=hs.p2.p2.p2.p1.dN (Ψ:=λ w=>DL w (Flat.val I8) (x1).l) (λ w h=>kU h);have hs:=hs.p2.p1.p2;refine ⟨λ mm w'=>∃ (x:fB) (g:SV),vr (Hd l j) l d n mm x=some r∧St w bD [cD DJ (Flat.enc (⟨g,(x).to,(x).e,(x).at_⟩:dP)),eX (λ w=>DL w (Flat.val g) (x).l),cD A6 (Flat.enc (⟨⟨none,0,0⟩,0,0,0⟩:dP))] w',⟨j,x1,I8,ayB,hs⟩,?_⟩
  rintro mm w7 ⟨x,g,LW,hs⟩ fy;obtain ⟨j2,rfl⟩:=Ow LW;refine aA tO (aB (v:=.int .i64 (x).e) nj hs.hb rfl (aH (aC (λ Lq=>?_) (λ Lq=>?_))))
  ·have hs:=hs.p2.p2.p2;refine ⟨λ mm o kk w'=>∃ k:Nat,o = .int .i64 (E2 l x.to n k)∧kk = .int .i64 (k:Int)∧mm=(qd n).length - k∧k≤(qd n).length∧St w bD [cD DJ (Flat.enc (⟨g,(x).to,(x).e,(x).at_⟩:dP)),eX (λ w=>DL w (Flat.val g) (x).l),cD A6 (Flat.enc (⟨⟨none,0,0⟩,0,0,0⟩:dP))] w',⟨_,0,rfl,rfl,rfl,Nat.zero_le _,hs⟩,?_⟩;rintro mm _ _ w8 ⟨k,rfl,rfl,rfl,KF,hs⟩ jw;have hfl4:=Ox n;refine dB T7 hs (C258 n _ (by omega)) (λ x31 w9 bZ hs=>aJ ee (hs).fK (aR (aC (λ nz=>?_) (λ nz=>?_))))
   ·refine ⟨λ jv w'=>jv = .int .i64 (E2 l x.to n (k+1))∧St w bD [cD DJ (Flat.enc (⟨g,(x).to,(x).e,(x).at_⟩:dP)),eX (λ w=>DL w (Flat.val g) (x).l),cD A6 (Flat.enc (⟨⟨none,0,0⟩,0,0,0⟩:dP))] w',?_,?_⟩
    ·refine aA nW (have hs:=hs.drew;aB (v:=.int .i64 (x).to) bL hs.p1.hb rfl (dB T7 hs (C258 n _ (by omega)) (λ x40 pQ bZ hs=>?_)));refine ⟨aG bL (hs.p2.hb.cell rfl),?_⟩;obtain ⟨aga,E3⟩:=gx ((qd n)) (i:=((k:Int)).toNat) (by omega);refine dS hs ee (by omega) (by omega) (λ _ arn=>gj hs bL arn E3 ?_);have hfb:=Xi E3;refine aZ anL hs (C259 aga _ (by omega)) (λ sP he hs=>?_);refine ⟨aG bL (hs.p2.hb.cell rfl),?_⟩;refine aZ vg hs (C211 _ l (x).to (LP aga) _ (hL.ext hs.aF) hn) (λ vi he hs=>aX (λ kG=>?_) (λ kG=>?_))
     ·refine dB T7 hs (C258 n _ (by omega)) (λ x47 vj bZ hs=>dS hs ee (by omega) (by omega) (λ _ Ef=>gj hs bL Ef E3 ?_));have hs:=(((((((hs.drop)).drop)).drop).p2).p2).p2;exact ⟨by rw [Hc (k:=k) E3,if_pos kG] <;> rfl,hs⟩
     ·have hs:=(((((hs.drop)).drop).p2).p2).p2;exact ⟨by rw [Hc (k:=k) E3,if_neg (by simpa using kG)] <;> rfl,hs⟩
    ·rintro _ sd ⟨rfl,hs⟩ oN;refine aO (by omega) ?_;exact ⟨_,by omega,k+1,rfl,rfl,rfl,by omega,hs⟩
   ·have jM:E2 l x.to n k=I6 l x.to n:=by unfold I6; rw [show k=(qd n).length from by omega]
    refine aH (aC (λ sn=>?_) (λ sn=>?_))
    ·refine aD fT hs.p1.At (aI (x:=(⟨g,(x).to,(x).e,(x).at_⟩:dP)) hs.p3 fT rfl rfl (λ vW hs=>aD fT hs.At ?_));have hR:r=(⟨(x).l,(x).to,(x).e,(x).at_⟩:fB):=Xj (x:=x) LW (by omega) (by rw [← jM]; exact sn);rw [hR];have hs:=hs.p3.dN (Ψ:=(λ w=>cA.dr w (⟨g,(x).to,(x).e,(x).at_⟩:dP) (⟨(x).l,(x).to,(x).e,(x).at_⟩:fB))) (λ w h=>⟨_,rfl,id (h)⟩);have hs:=(((hs.p1.drop.p1).drop).p1).drop;exact ⟨_,rfl,hs.fresh⟩
    ·obtain ⟨t,y,h0t,ht,hy,hye,hyn⟩:=Xk LW (by omega) (by rw [← jM]; exact sn);have MZ:=(List.getElem?_eq_some_iff.1 ht).1;refine aA nW (aB (v:=.int .i64 (x).to) bL hs.p1.hb rfl (aO (by omega) (aO (by omega) (ey Pv ((HR _ (x.to+1) d (n+1) y _ (hL.ext hs.aF) hy (by omega) hd (by omega)).1) ?_))));rintro _ yM ⟨ayE,rfl,bZ⟩;have hs:=hs.made bZ;obtain ⟨CO,akr,_⟩:=(hs).eX;subst akr;refine aN hs r7 (λ b_y12 Cd hs=>have hs:=hs.enc (cs':=Flat.enc (⟨⟨none,0,0⟩,0,0,0⟩:dP)) rfl;aI (x:=(⟨CO,(y).to,(y).e,(y).at_⟩:dP)) hs fT rfl rfl (λ Il hs=>aA tO (aB (v:=.int .i64 (y).e) nj hs.hb rfl (cS (aC (λ qm=>?_) (λ qm=>?_))))))
     ·refine aD fT hs.At (aI (x:=(⟨CO,(y).to,(y).e,(y).at_⟩:dP)) hs.p5 fT rfl rfl (λ Jo hs=>aD fT hs.At ?_));have hR:r=(⟨(y).l,(y).to,(y).e,(y).at_⟩:fB):=hye qm;rw [hR];have hs:=hs.p2.dN (Ψ:=(λ w=>cA.dr w (⟨CO,(y).to,(y).e,(y).at_⟩:dP) (⟨(y).l,(y).to,(y).e,(y).at_⟩:fB))) (λ w h=>⟨_,rfl,kU (h)⟩);have hs:=(((((hs.p1.drop.p1.drop.p1).drop).p1).drop).p1).drop;exact ⟨_,rfl,hs.fresh⟩
     ·refine aA nW (aB (v:=.int .i64 (x).to) bL hs.p3.hb rfl (aQ fz (hL.ext hs.aF) (by omega) ht (λ _ Lh=>bP (t).at_ ld Lh rfl rfl (λ _ aro=>aD bL (aro) (pop (Dv _ _) (bW ([(⟨(E2 l x.to n k),0,(ByteArray.mk #[]),(t).at_⟩:cW)]) hs lP rfl rfl (eF rfl) (λ afa KA hs=>aA qU (aB (v:=Flat.val (g:SV)) mR hs.p4.hb rfl ?_))))))));have Nm:=(hyn (by omega)).1;have aks:=(DL.flat (id (hs.p5).eX));refine cN hs lP aks (by simp; omega) (by decide) (λ apP Mx hs=>aA qU (aB (v:=Flat.val (CO:SV)) mR hs.p1.hb rfl ?_));have akt:=(DL.flat (kU (hs.p2).eX))
      refine cN hs lP akt (by simp; omega) (by decide) (λ s_x82 Qp hs=>aA nW (aB (v:=.int .i64 (y).to) bL hs.p1.hb rfl ?_));obtain ⟨E4,rfl⟩:=(hs).fQ;refine pop (yl _ _ _ _) (aI (x:=(⟨E4,(y).to,0,0⟩:dP)) hs.p4 fT rfl rfl (λ Tn hs=>aH (aC (λ El=>?_) (λ El=>?_))))
      ·refine aD fT hs.At (aI (x:=(⟨E4,(y).to,0,0⟩:dP)) hs.p6 fT rfl rfl (λ VF hs=>aD fT hs.At ?_));have hR:r=(⟨(([(⟨(E2 l x.to n k),0,(ByteArray.mk #[]),(t).at_⟩:cW)]++(x).l)++(y).l),(y).to,0,0⟩:fB):=((hyn (by omega)).2.1 El).trans (by rw [← jM]);rw [hR];have hs:=hs.p2.freeze.dN (Ψ:=(λ w=>cA.dr w (⟨E4,(y).to,0,0⟩:dP) (⟨(([(⟨(E2 l x.to n k),0,(ByteArray.mk #[]),(t).at_⟩:cW)]++(x).l)++(y).l),(y).to,0,0⟩:fB))) (λ w h=>⟨_,rfl,DL.fp h⟩);have hs:=((((((hs.p1.drop.p1.drop.p1.drop).p1).drop).p1).drop).p1).drop;exact ⟨_,rfl,hs.fresh⟩
      ·have hs:=hs.p1.freeze.dN (Ψ:=λ w=>DL w (Flat.val E4) ([(⟨E2 l x.to n k,0,ByteArray.mk #[],t.at_⟩:cW)]++x.l++y.l)) (λ w h=>DL.fp h);have hs:=((((hs.p2.drop.p2.drop.p2.drop.p2).drop).p2).p1).p2;have vp:=(hyn (by omega)).2.2 El;rw [← jM] at vp;exact ⟨_,by omega,⟨_,_,_,_⟩,E4,vp,hs⟩
  ·refine aD fT hs.At (aI (x:=(⟨g,(x).to,(x).e,(x).at_⟩:dP)) hs.p2 fT rfl rfl (λ R7 hs=>aD fT hs.At ?_));have hR:r=(⟨(x).l,(x).to,(x).e,(x).at_⟩:fB):=ado (x:=x) LW (by omega);rw [hR];have hs:=hs.p2.dN (Ψ:=(λ w=>cA.dr w (⟨g,(x).to,(x).e,(x).at_⟩:dP) (⟨(x).l,(x).to,(x).e,(x).at_⟩:fB))) (λ w h=>⟨_,rfl,id (h)⟩);have hs:=((hs.p1.drop).p1).drop;exact ⟨_,rfl,hs.fresh⟩
theorem aku {l:List bF} (hk:iu l):∀ j,aj9 l (Hd l j)
 | 0=>λ lv i d n r w hL hr=>by cases hr
 | j+1=>λ lv i d n r w hL hr h0 hd hn=>⟨C235 l j lv i d n r w hL hk (aku hk j) h0 hd hn hr,λ h5=>by subst h5; exact C257 l (Hd l j) lv i d r w hL hk (aku hk j) h0 hd (af8 hr)⟩
theorem C214 (l:List bF) (lv:Value) (i:Int) (R:List cW × Int × Int × Int) (w:World) (hL:eI (λ _=>True) w lv l) (hk:iu l) (hil:i≤l.length) (hr:vt l i=some R):CR 214 [lv,.int .i64 i] w (λ v w'=>∃ sv:SV,v = .tuple #[Flat.val sv,.int .i64 R.2.1,.int .i64 R.2.2.1,.int .i64 R.2.2.2]∧lW (eX (λ w=>DL w (Flat.val sv) R.1)) w w'):=by
 have Fm:=hk.n;have hn:l.length≤1000000:=by omega
 have sR:=hk.at_;have hs:=St.start w;refine aaj _ _ _ _ ?_;unfold S214;refine aR (aC (λ fO=>?_) (λ fO=>?_))
 ·have hR:R=([],0,1,0):=by
   unfold vt at hr; rw [if_pos fO] at hr; exact (Option.some.inj hr).symm
  rw [hR];exact ⟨⟨none,0,0⟩,rfl,(hs.gE (Φ:=λ w=>DL w (Flat.val (⟨none,0,0⟩:SV)) ([]:List cW)) λ w=>DL.nil w).fresh⟩
 ·obtain ⟨x,hx,Gd⟩:=Xl hr (by omega);refine ey Pv ((aku hk 10000 _ i 0 0 x _ (hL.ext hs.aF) hx (by omega) (by omega) (by omega)).1) ?_;rintro _ w1 ⟨ayF,rfl,bZ⟩;have hs:=hs.made bZ;obtain ⟨xm,akv,_⟩:=(hs).eX;subst akv;refine aN hs r7 (λ A6 w2 hs=>have hs:=hs.enc (cs':=Flat.enc (⟨⟨none,0,0⟩,0,0,0⟩:dP)) rfl;aI (x:=(⟨xm,(x).to,(x).e,(x).at_⟩:dP)) hs fT rfl rfl (λ w3 hs=>aA tO (aB (v:=.int .i64 (x).e) nj hs.hb rfl (cS (aC (λ eA=>?_) (λ eA=>?_))))))
  ·refine aA tO (have hs:=hs.drew;aB (v:=.int .i64 (x).e) nj hs.hb rfl (aA Uc (aB (v:=.int .i64 (x).at_) bL hs.hb rfl ?_)))
   have hR:R=([],0,x.e,x.at_):=by
    rw [if_pos eA] at Gd; exact (Option.some.inj Gd).symm
   rw [hR];exact ⟨⟨none,0,0⟩,rfl,(hs.gE (Φ:=λ w=>DL w (Flat.val (⟨none,0,0⟩:SV)) ([]:List cW)) λ w=>DL.nil w).fresh⟩
  ·rw [if_neg eA] at Gd;obtain ⟨tr,tk,htr,SI,O7,hr3⟩:=OB Gd;have htki:=(List.getElem?_eq_some_iff.1 SI).1;obtain ⟨hwf,Ca⟩:=yo htr;have hAt:Jp x.l 0 tr:=⟨by omega,hwf,[],by simpa using Ca⟩;refine aA qU (aB (v:=Flat.val (xm:SV)) mR hs.hb rfl (aZ T3 hs (C162 _ x.l 0 tr (tr.size+1) _ (DL.flat (kU (hs.p1).eX)) (by omega) hAt (by omega)) (λ w4 he hs=>cZ (aC (λ ib=>?_) (λ ib=>?_)))))
   ·refine aQ fz (hL.ext hs.aF) (by omega) SI (λ _ v9=>bP (tk).at_ ld v9 rfl rfl (λ _ wg=>have hs:=hs.drew;aD bL (wg) ?_))
    have hR:R=([],0,7,tk.at_):=by
     rw [if_pos ib] at hr3; exact (Option.some.inj hr3).symm
    rw [hR];exact ⟨⟨none,0,0⟩,rfl,(hs.gE (Φ:=λ w=>DL w (Flat.val (⟨none,0,0⟩:SV)) ([]:List cW)) λ w=>DL.nil w).fresh⟩
   ·refine aA qU (aB (v:=Flat.val (xm:SV)) mR hs.hb rfl (aJ lP (DL.flat (kU (hs.p1).eX)) (cZ (aC (λ nz=>?_) (λ nz=>?_)))))
    ·refine aQ fz (hL.ext hs.aF) (by omega) SI (λ _ tV=>bP (tk).at_ ld tV rfl rfl (λ _ zN=>have hs:=hs.drew;aD bL (zN) ?_))
     have hR:R=([],0,2,tk.at_):=by
      rw [if_neg ib,if_pos (by omega)] at hr3; exact (Option.some.inj hr3).symm
     rw [hR];exact ⟨⟨none,0,0⟩,rfl,(hs.gE (Φ:=λ w=>DL w (Flat.val (⟨none,0,0⟩:SV)) ([]:List cW)) λ w=>DL.nil w).fresh⟩
    ·refine aA qU (have hs:=hs.drew;aB (v:=Flat.val (xm:SV)) mR hs.hb rfl (aA nW (aB (v:=.int .i64 (x).to) bL hs.hb rfl ?_)));have hs:=hs.p1.dN (Ψ:=λ w=>DL w (Flat.val xm) x.l) (λ w h=>kU h)
     have hR:R=(x.l,x.to,0,0):=by
      rw [if_neg ib,if_neg (by omega)] at hr3; exact (Option.some.inj hr3).symm
     rw [hR];exact ⟨xm,rfl,hs.fresh⟩
end Go.Proofs.YtnjcingfdhjfkaaGreat

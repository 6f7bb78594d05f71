/-
  What the proof needs, part 6.
-/
import Derived.Test.YtnjcingfdhjfkaaGreatVrM5
set_option linter.all false
namespace Go.Proofs.YtnjcingfdhjfkaaGreat
open Go.Fw
theorem Ol (m:gE) (i:Nat) (t:fK):(tq m i t).length≤1+t.buf.length:=by
 have:=Hc t.buf
 unfold tq; split <;> simp <;> omega
theorem wI {m:gE} (h:qx m):∀ k,(kW m k).length≤k * 1001
 | 0=>by simp [kW]
 | k+1=>by
  have ih:=wI h k
  cases ht:m.l[k]? with
  | none=>
   have e:kW m (k+1)=kW m k:=by unfold kW; rw [List.range_succ,List.flatMap_append]; simp [ht]
   rw [e]; exact Nat.le_trans ih (Nat.mul_le_mul_right 1001 (Nat.le_succ k))
  | some t=>
   rw [Ay ht,List.length_append]
   have:=Ol m k t
   have:=(h.th t (List.mem_of_getElem? ht)).bl
   omega
def yi (m:gE) (i:Int):List Int:=if 0≤i then (match m.l[i.toNat]? with | some t=>t.aK | none=>[]) else []
def LP (m:gE) (i:Int):List bJ:=if 0≤i then (match m.l[i.toNat]? with | some t=>t.buf | none=>[]) else []
theorem W9 {m:gE} {i:Int} {t:fK} (h0:0≤i) (h:m.l[i.toNat]? = some t):yi m i=t.aK:=by unfold yi; rw [if_pos h0,h]
theorem adv {m:gE} {i:Int} {t:fK} (h0:0≤i) (h:m.l[i.toNat]? = some t):LP m i=t.buf:=by unfold LP; rw [if_pos h0,h]
theorem Sw {m:gE} {i:Int} (h:i<0∨m.l.length≤i):yi m i=[]:=by
 unfold yi; split
 ·rw [List.getElem?_eq_none (by omega)]
 ·rfl
theorem Xa {m:gE} {i:Int} (h:i<0∨m.l.length≤i):LP m i=[]:=by
 unfold LP; split
 ·rw [List.getElem?_eq_none (by omega)]
 ·rfl
def adw:List Int→Int→Int
 | [],n=>n
 | c::cs,n=>adw cs (q9 (q9 (n * 10000)+c))
def Az (l:List Int) (k:Nat):Int:=adw (l.take k) 0
theorem Hd:∀ (l:List Int) (c n:Int),adw (l++[c]) n=q9 (q9 (adw l n * 10000)+c)
 | [],_,_=>rfl
 | x::l,c,n=>Hd l c _
theorem Om {l:List Int} {k:Nat} {c:Int} (h:l[k]? = some c):Az l (k+1)=q9 (q9 (Az l k * 10000)+c):=by
 unfold Az; rw [List.take_add_one,h]; exact Hd _ _ _
def jP (p q:et):Bool:=decide (q.kind=p.kind) && decide (q.t=p.t) && decide (q.i=p.i) && decide (p.cut.length=0)
def pk3 (s:SV):dZ:=⟨3,0,0,s⟩
theorem adx {w:World} {ss:List SV} {cs:List (List Int)} (h:jS ss cs w):jS (ss.map pk3) (cs.map λ c=>(⟨3,0,0,c⟩:et)) w:=by
 refine ⟨by simp [h.1],λ i t x a b=>?_⟩
 rw [List.getElem?_map] at a b
 cases hs:ss[i]? with
 | none=>rw [hs] at a; cases a
 | some s=>
  cases hc:cs[i]? with
  | none=>rw [hc] at b; cases b
  | some c=>
   rw [hs] at a; rw [hc] at b
   simp at a b; subst a b
   exact ⟨s,rfl,h.2 i s c hs hc⟩
theorem C16 (K:World→Prop) (p:Nat) (m:gE) (w:World) (hm:Has (eO K p m) w) (hw:K w) (uE:∀ w',Ext w w'→K w') (lZ:qx m):CR 16 [(.pointer (some ⟨p,0,none⟩))] w (λ v w'=>lY (fj v (ft m)) w w'):=by
 obtain ⟨a,hr⟩:=eO.rd hm hw;have YE:=hr.b.cell (o:=8) rfl;have cm0:=hr.b.cell (o:=0) rfl;have W8:=hr.b.cell (o:=1) rfl;have cm3:=hr.b.cell (o:=3) rfl;have cm9:=hr.b.cell (o:=9) rfl;have BL:=hr.b.cell (o:=10) rfl;have Cw:=hr.b.cell (o:=11) rfl;have xQ:=hr.b.cell (o:=12) rfl;have E4:=hr.b.cell (o:=13) rfl;have yS:=hr.b.cell (o:=14) rfl;have E5:=hr.b.cell (o:=15) rfl;have hs:=St.start w;refine agT _ _ _ ?_;unfold S16;refine aE (aA nT (cD bL (yS.ext hs.aF) (cQ (aC (λ jZ=>?_) (λ jZ=>?_)))))
 ·have hpm:ft m=[]:=by unfold ft; rw [if_pos jZ]
  rw [hpm];exact hs.xI.fresh
 ·refine aE (aA jg (cD py (xQ.ext hs.aF) (aJ ql (hr.ll.ext hs.aF) ?_)));have hs:=hs.xI (α:=et);refine ⟨λ mm o x w1=>∃ k:Nat,x = .int .i64 (k:Int)∧mm=a.ps.length - k∧k≤a.ps.length∧St w bD [fj o (kW m k)] w1,⟨_,0,rfl,rfl,Nat.zero_le _,hs⟩,?_⟩;rintro mm fX _ w1 ⟨k,rfl,rfl,hk,hs⟩ fy;refine aR (aC (λ fw=>?_) (λ fw=>?_))
  ·obtain ⟨Xb,ve⟩:=gx (a.ps) (i:=((k:Int)).toNat) (by omega);refine aQ ql hr.ll (by omega) ve (λ _ wA=>?_);obtain ⟨t,ht⟩:∃ t,m.l[k]? = some t:=⟨_,List.getElem?_eq_getElem (by have:=hr.len; omega)⟩;have Cv:=List.mem_of_getElem? ht;have yA:=(lZ.th t Cv).bl;have vj:=wI lZ k;have Qq:=Hc t.buf;have KL:=hr.len;have M7:=lZ.tl;refine aD zD (wA.ext hs.aF) ?_;refine ⟨λ o w'=>St w bD [fj o (kW m k++(if Cu m t=true then [(⟨1,(k:Int),0,[]⟩:et)] else []))] w',?_,?_⟩
   ·refine aZ auL hs (C56 K p m Xb.b t _ (hm.ext hs.aF) (uE _ hs.aF) (λ w2 e=>uE _ (Ext.trans hs.aF e)) lZ ((hr.th k _ _ ve ht).ext hs.aF) Cv) (λ w2 he hs=>aX (λ fQ=>?_) (λ fQ=>?_))
    ·refine pop (Gx _ _) (have hs:=hs.gF (Φ:=(λ w=>bZ.dr w (⟨1,(k:Int),0,⟨none,0,0⟩⟩:dZ) (⟨1,(k:Int),0,[]⟩:et))) (λ w=>⟨_,rfl,DL.nil _⟩);eK (s:=(⟨1,(k:Int),0,⟨none,0,0⟩⟩:dZ)) (x:=(⟨1,(k:Int),0,[]⟩:et)) hs mL (by decide) (λ afp w3 hs=>have hs:=hs.p1;ee hs mL (by simp; omega) (by decide) (λ s_x30 w4 hs=>?_)));rw [fQ,if_pos rfl];exact hs
    ·rw [fQ,if_neg (by decide),List.append_nil];exact hs
   ·intro nk w5 hs jB;obtain ⟨bp,gl,rg,cn,_,ox,hB,Bw,YD⟩:=eF.rd (hr.th k _ _ ve ht);have W7:=ox.cell (o:=0) rfl;have ct5:=ox.cell (o:=5) rfl;have ct6:=ox.cell (o:=6) rfl;refine aE (aA mW (cD qW (W7.ext hs.aF) (cZ auM hs (C57 bp _ _ _ (hB.ext hs.aF) (by omega)) (λ x35 w6 bY hs=>?_))));have hxx:=trivial;refine aJ dY (hs).fB ?_;have hs:=hs.p1.p1;refine ⟨λ mm o x w1=>∃ j:Nat,x = .int .i64 (j:Int)∧mm=(Ak t.buf).length - j∧j≤(Ak t.buf).length∧St w bD [bK x35 (Ak t.buf),fj o ((kW m k++(if Cu m t=true then [(⟨1,(k:Int),0,[]⟩:et)] else []))++((Ak t.buf).take j).map λ i=>(⟨2,(k:Int),i,[]⟩:et))] w1,⟨_,0,rfl,rfl,Nat.zero_le _,by simpa using hs⟩,?_⟩
    rintro mm MX _ w7 ⟨j,rfl,rfl,hj,hs⟩ oS;refine aR (aC (λ nd=>?_) (λ nd=>?_))
    ·obtain ⟨qu,qa⟩:=gx ((Ak t.buf)) (i:=((j:Int)).toNat) (by omega);refine dR hs dY (by omega) (by omega) (λ _ ud=>ga hs bL ud qa (pop (Ko _ _ _) (have hs:=hs.gF (Φ:=(λ w=>bZ.dr w (⟨2,(k:Int),qu,⟨none,0,0⟩⟩:dZ) (⟨2,(k:Int),qu,[]⟩:et))) (λ w=>⟨_,rfl,DL.nil _⟩);eK (s:=(⟨2,(k:Int),qu,⟨none,0,0⟩⟩:dZ)) (x:=(⟨2,(k:Int),qu,[]⟩:et)) hs mL (by decide) (λ Wk w8 hs=>have hs:=hs.p2;ee hs mL (by simp only [List.length_append,List.length_map,List.length_take,List.length_singleton]; split <;> simp <;> omega) (by decide) (λ aqt w9 hs=>aO (by omega) ?_)))))
     have hs:=hs.p1;refine ⟨_,by omega,j+1,rfl,rfl,by omega,?_⟩;rw [List.append_assoc,iP (k:=j) qa] at hs;exact hs
    ·refine aO (by omega) ?_;have hs:=(hs).drop;refine ⟨_,by omega,k+1,rfl,rfl,by omega,?_⟩;rw [Ay ht];unfold tq;rw [List.take_of_length_le (by omega),List.append_assoc] at hs;exact hs
  ·have hpm:ft m=kW m a.ps.length:=by unfold ft; rw [if_neg jZ,hr.len]
   rw [hpm,show a.ps.length=k from by omega];exact hs.fresh
theorem C31 (K:World→Prop) (p:Nat) (m:gE) (w:World) (hm:Has (eO K p m) w) (hw:K w) (uE:∀ w',Ext w w'→K w') (lZ:qx m) (hb:MB m.mem 1000000) (hC:(ey (yQ m.mem)).length≤1000000000):CR 31 [(.pointer (some ⟨p,0,none⟩))] w (λ v w'=>lY (fj v (js m)) w w'):=by
 obtain ⟨a,hr⟩:=eO.rd hm hw;have YE:=hr.b.cell (o:=8) rfl;have cm0:=hr.b.cell (o:=0) rfl;have W8:=hr.b.cell (o:=1) rfl;have cm3:=hr.b.cell (o:=3) rfl;have cm9:=hr.b.cell (o:=9) rfl;have BL:=hr.b.cell (o:=10) rfl;have Cw:=hr.b.cell (o:=11) rfl;have xQ:=hr.b.cell (o:=12) rfl;have E4:=hr.b.cell (o:=13) rfl;have yS:=hr.b.cell (o:=14) rfl;have E5:=hr.b.cell (o:=15) rfl;have hs:=St.start w;refine ag7 _ _ _ ?_;unfold S31;refine aE (aA nT (cD bL (yS.ext hs.aF) (cQ (aC (λ fO=>?_) (λ fO=>?_)))))
 ·have hpm:js m=[]:=by unfold js; rw [if_pos fO]
  rw [hpm];exact hs.xI.fresh
 ·refine aE (aA jH (cD sd (BL.ext hs.aF) (eD auY (C82 a.q m.mem _ (hr.mem.ext hs.aF) lZ.mem hb hC) ?_)));rintro x15 w1 bY;have hs:=hs.made bY;obtain ⟨ss,hs⟩:=hs.GD;have hsl:=hs.aie;have hdl:=QO (qw m.mem) (ey (yQ m.mem));have MI:(yh m.mem).length=(I0 (qw m.mem) (ey (yQ m.mem))).1.length:=rfl;refine aJ xX (hs).fB ?_;have hs:=(((hs.fU (α:=dZ)).p2).p2).p2;refine ⟨λ mm o x w1=>∃ k:Nat,x = .int .i64 (k:Int)∧mm=ss.length - k∧k≤ss.length∧St w bD [bK o ((ss.take k).map pk3),bK x15 ss,eU (jS ss (yh m.mem))] w1,⟨_,0,rfl,rfl,Nat.zero_le _,hs⟩,?_⟩;rintro mm fX _ w2 ⟨k,rfl,rfl,hk,hs⟩ fy
  refine aR (aC (λ gh=>?_) (λ gh=>?_))
  ·obtain ⟨iX,fH⟩:=gx (ss) (i:=((k:Int)).toNat) (by omega);refine dR hs.p1 xX (by omega) (by omega) (λ _ jL=>ga hs.p1 eu jL fH (pop (v:=Flat.val (pk3 iX)) (Gy _ _ _ _) (bW ([pk3 iX]) hs mL rfl rfl (eI rfl) (λ s_x24 w3 hs=>?_))));have wz:=(hs).fB;refine cN hs.p1 mL wz (by simp; omega) (by decide) (λ apO w4 hs=>have hs:=hs.p1.drop;aO (by omega) ?_);have hs:=hs.p2.p2.p2;exact ⟨_,by omega,k+1,rfl,rfl,by omega,by rw [← iP (k:=k) fH]; exact hs⟩
  ·have hs:=(hs.p1.drop).p1;have hpm:js m=(yh m.mem).map λ c=>(⟨3,0,0,c⟩:et):=by unfold js; rw [if_neg fO]
   rw [List.take_of_length_le (by omega)] at hs;rw [hpm];exact (St.DO (hs.dN (λ w h=>adx h)).p1).fresh
theorem C59 (cv:Value) (cut:List Int) (w:World) (hC:eJ (λ _=>True) w cv cut) (aj2:cut.length≤1000000):CR 59 [cv] w (λ v w'=>v = .int .i64 (Az cut cut.length)∧Ext w w'):=by
 have hs:=St.start w;refine ahw _ _ _ ?_;unfold S59;refine aJ dY (hC.ext hs.aF) ?_;refine ⟨λ mm n x w1=>∃ k:Nat,n = .int .i64 (Az cut k)∧x = .int .i64 (k:Int)∧mm=cut.length - k∧k≤cut.length∧St w bD [] w1,⟨_,0,rfl,rfl,rfl,Nat.zero_le _,hs⟩,?_⟩;rintro mm _ _ w1 ⟨k,rfl,rfl,rfl,hk,hs⟩ fy;refine aR (aC (λ gv=>?_) (λ gv=>?_))
 ·obtain ⟨e_x10,Xc⟩:=gx (cut) (i:=((k:Int)).toNat) (by omega);refine aQ dY hC (by omega) Xc (λ _ qt=>aD bL (qt.ext hs.aF) (Ky (Kx (aO (by omega) ?_))));exact ⟨_,by omega,k+1,by rw [Om (k:=k) Xc],rfl,rfl,by omega,hs⟩
 ·exact ⟨by rw [show cut.length=k from by omega],hs.aF⟩
theorem C60 (q x:et) (qv:dZ) (b:Nat) (xv:dZ) (w:World) (hq:bZ.dr w qv q) (hx:At (λ _=>True) w (.pointer (some ⟨b,0,none⟩)) xv) (hxd:bZ.dr w xv x):CR 60 [Flat.val qv,(.pointer (some ⟨b,0,none⟩))] w (λ v w'=>v = .bool (jP x q)∧Ext w w'):=by
 obtain ⟨QP,rfl,ady⟩:=hq;obtain ⟨adz,rfl,adA⟩:=hxd;have hs:=St.start w;refine ahx _ _ _ _ ?_;unfold S60;refine dE hs (λ ayp w1 hs=>?_);refine ⟨λ jv w'=>jv = .bool (jP x q)∧St w bD [cE ayp (Flat.enc (⟨(q).kind,(q).t,(q).i,QP⟩:dZ))] w',?_,?_⟩
 ·refine aA pg (aB (v:=.int .i64 ((q).kind)) bL hs.hb rfl (bT (x).kind pg hx rfl rfl (λ _ ayq=>aD bL (ayq.ext hs.aF) (aH (aC (λ gp=>?_) (λ gp=>?_))))))
  ·refine aA jG (aB (v:=.int .i64 ((q).t)) bL hs.hb rfl (bT (x).t jG hx rfl rfl (λ _ aq9=>aD bL (aq9.ext hs.aF) (aH (aC (λ gQ=>?_) (λ gQ=>?_))))))
   ·refine aA xc (aB (v:=.int .i64 ((q).i)) bL hs.hb rfl (bT (x).i xc hx rfl rfl (λ _ jL=>aD bL (jL.ext hs.aF) (aH (aC (λ gu=>?_) (λ gu=>?_))))))
    ·refine bT adz sb hx rfl rfl (λ _ v9=>aD eu (v9.ext hs.aF) ?_);have ara:=DL.flat (adA);refine aJ dY (ara.ext hs.aF) (aH ?_);exact ⟨vb (by unfold jP; first | (simp_all; done) | grind),hs⟩
    ·exact ⟨vb (by unfold jP; first | (simp_all; done) | grind),hs⟩
   ·exact ⟨vb (by unfold jP; first | (simp_all; done) | grind),hs⟩
  ·exact ⟨vb (by unfold jP; first | (simp_all; done) | grind),hs⟩
 ·rintro _ w2 ⟨rfl,hs⟩ fy;exact ⟨rfl,hs.drop.aF⟩
theorem C126 (sv fv:Value) (xs:List et) (φ:et→Prop) (g:et→Bool) (w:World) (hL:DL w sv xs) (hf:n8 PG w fv φ g) (hφ:∀ x∈xs,φ x) (hn:xs.length≤1073741824):CR 126 [sv,fv] w (λ v w'=>v = .int .i64 (uQ g xs)∧Ext w w'):=by
 obtain ⟨g0,first,cap,rfl,vj,l4⟩:=hf;have hs:=St.start w;refine Zs _ _ _ _ ?_;unfold S126;obtain ⟨arb,agj,agk⟩:=(hL).open;have hn127:=agk.1;refine aJ mL (agj.ext hs.aF) ?_;refine ⟨λ m x w1=>∃ k:Nat,x = .int .i64 (k:Int)∧m=xs.length - k∧k≤xs.length∧(∀ y∈xs.take k,g y=false)∧St w bD [] w1,⟨_,0,rfl,rfl,Nat.zero_le _,by simp,hs⟩,?_⟩;rintro m _ w1 ⟨k,rfl,rfl,hk,fS,hs⟩ fy;refine aR (aC (λ gv=>?_) (λ gv=>?_))
 ·obtain ⟨jl,dD⟩:=gx arb (i:=((k:Int)).toNat) (by omega);obtain ⟨B9,jV⟩:=gx (xs) (i:=((k:Int)).toNat) (by omega);obtain ⟨Sx,rfl,Sy⟩:=agk.2 _ _ _ dD jV;refine aQ mL agj (by omega) dD (λ _ iN=>aD nJ (iN.ext hs.aF) (gd vj (l4 _ B9 w1 hs.aF ⟨Sx,rfl,(Sy.ext hs.aF)⟩ (hφ _ (List.mem_of_getElem? jV))) ?_));rintro _ w2 ⟨rfl,he⟩;have hs:=hs.ext he;refine aX (λ eB=>?_) (λ eB=>?_)
  ·exact ⟨congrArg (Value.int .i64) (pj fS jV eB).symm,hs.aF⟩
  ·refine aO (by omega) ?_;exact ⟨_,by omega,k+1,rfl,rfl,by omega,eE fS jV eB,hs⟩
 ·exact ⟨congrArg (Value.int .i64) (kr (by rw [List.take_of_length_le (by omega)] at fS; exact fS)).symm,hs.aF⟩
theorem C61 (sv fv:Value) (xs:List et) (φ:et→Prop) (g:et→Bool) (w:World) (hL:DL w sv xs) (hf:n8 PG w fv φ g) (hφ:∀ x∈xs,φ x) (hn:xs.length≤1073741824):CR 61 [sv,fv] w (λ v w'=>v = .bool (xs.any g)∧Ext w w'):=by
 have hs:=St.start w;refine ahy _ _ _ _ ?_;unfold S61;refine aZ am5 hs (C126 _ _ _ _ _ _ (hL.ext hs.aF) (hf.ext hs.aF) hφ (by omega)) (λ w1 he hs=>dF ?_);exact ⟨vb (oa _ _),hs.aF⟩
theorem C22 (K:World→Prop) (p:Nat) (m:gE) (w:World) (hm:Has (eO K p m) w) (hw:K w) (uE:∀ w',Ext w w'→K w') (lZ:qx m):CR 22 [(.pointer (some ⟨p,0,none⟩))] w (λ v w'=>lY (bK v m.mem.l) w w'):=by
 obtain ⟨a,hr⟩:=eO.rd hm hw;have YE:=hr.b.cell (o:=8) rfl;have cm0:=hr.b.cell (o:=0) rfl;have W8:=hr.b.cell (o:=1) rfl;have cm3:=hr.b.cell (o:=3) rfl;have cm9:=hr.b.cell (o:=9) rfl;have BL:=hr.b.cell (o:=10) rfl;have Cw:=hr.b.cell (o:=11) rfl;have xQ:=hr.b.cell (o:=12) rfl;have E4:=hr.b.cell (o:=13) rfl;have yS:=hr.b.cell (o:=14) rfl;have E5:=hr.b.cell (o:=15) rfl;have hs:=St.start w;refine agZ _ _ _ ?_;unfold S22;refine aE (aA jH (cD sd (BL.ext hs.aF) (cZ ahP hs (C72 a.q m.mem _ (hr.mem.ext hs.aF) lZ.mem) (λ x7 w1 bY hs=>?_))));exact hs.fresh
theorem C23 (K:World→Prop) (p:Nat) (m:gE) (w:World) (hm:Has (eO K p m) w) (hw:K w) (uE:∀ w',Ext w w'→K w') (lZ:qx m):CR 23 [(.pointer (some ⟨p,0,none⟩))] w (λ v w'=>lY (bK v m.mem.kept) w w'):=by
 obtain ⟨a,hr⟩:=eO.rd hm hw;have YE:=hr.b.cell (o:=8) rfl;have cm0:=hr.b.cell (o:=0) rfl;have W8:=hr.b.cell (o:=1) rfl;have cm3:=hr.b.cell (o:=3) rfl;have cm9:=hr.b.cell (o:=9) rfl;have BL:=hr.b.cell (o:=10) rfl;have Cw:=hr.b.cell (o:=11) rfl;have xQ:=hr.b.cell (o:=12) rfl;have E4:=hr.b.cell (o:=13) rfl;have yS:=hr.b.cell (o:=14) rfl;have E5:=hr.b.cell (o:=15) rfl;have hs:=St.start w;refine ag0 _ _ _ ?_;unfold S23;refine aE (aA jH (cD sd (BL.ext hs.aF) (cZ TY hs (C73 a.q m.mem _ (hr.mem.ext hs.aF) lZ.mem) (λ x7 w1 bY hs=>?_))));exact hs.fresh
theorem C25 (K:World→Prop) (p:Nat) (m:gE) (i:Int) (w:World) (hm:Has (eO K p m) w) (hw:K w) (uE:∀ w',Ext w w'→K w') (lZ:qx m) (YF:∀ t∈m.l,t.aK.length≤1000000):CR 25 [(.pointer (some ⟨p,0,none⟩)),.int .i64 i] w (λ v w'=>lY (bK v (yi m i)) w w'):=by
 obtain ⟨a,hr⟩:=eO.rd hm hw;have YE:=hr.b.cell (o:=8) rfl;have cm0:=hr.b.cell (o:=0) rfl;have W8:=hr.b.cell (o:=1) rfl;have cm3:=hr.b.cell (o:=3) rfl;have cm9:=hr.b.cell (o:=9) rfl;have BL:=hr.b.cell (o:=10) rfl;have Cw:=hr.b.cell (o:=11) rfl;have xQ:=hr.b.cell (o:=12) rfl;have E4:=hr.b.cell (o:=13) rfl;have yS:=hr.b.cell (o:=14) rfl;have E5:=hr.b.cell (o:=15) rfl;have hs:=St.start w;refine ag2 _ _ _ _ ?_;unfold S25;refine ⟨λ jv w'=>jv = .bool (decide (i<0∨a.ps.length≤i))∧w=w',?_,?_⟩
 ·refine aR (aC (λ oC=>?_) (λ oC=>?_))
  ·exact ⟨Ph (by omega),rfl⟩
  ·refine aE (aA jg (cD py (xQ.ext hs.aF) (aJ ql (hr.ll.ext hs.aF) (dF ?_))));exact ⟨wW (by omega),rfl⟩
 ·rintro _ w1 ⟨rfl,hw⟩ fy;subst hw;refine aC (λ jm=>?_) (λ jm=>?_)
  ·rw [Sw (by have:=hr.len; omega)];exact (hs.fU (α:=Int)).fresh
  ·refine aE (aA jg (cD py (xQ.ext hs.aF) ?_));obtain ⟨Xb,ve⟩:=gx (a.ps) (i:=(i).toNat) (by omega);refine aQ ql hr.ll (by omega) ve (λ _ wA=>aD zD (wA.ext hs.aF) ?_);obtain ⟨t,ht⟩:∃ t,m.l[i.toNat]? = some t:=⟨_,List.getElem?_eq_getElem (by have:=hr.len; omega)⟩;have yA:=(lZ.th t (List.mem_of_getElem? ht)).bl;have arc:=(lZ.th t (List.mem_of_getElem? ht)).rg;obtain ⟨bp,gl,rg,cn,_,ox,hB,Bw,YD⟩:=eF.rd (hr.th i.toNat _ _ ve ht);have W7:=ox.cell (o:=0) rfl;have ct5:=ox.cell (o:=5) rfl;have ct6:=ox.cell (o:=6) rfl;refine aE (aA pz (cD eu (ct5.ext hs.aF) (cZ zp hs (C70 _ _ _ (Bw.ext hs.aF) (YF t (List.mem_of_getElem? ht))) (λ x26 w2 bY hs=>?_))))
   rw [W9 (by omega) ht];exact hs.fresh
theorem C35 (K:World→Prop) (p:Nat) (m:gE) (i:Int) (w:World) (hm:Has (eO K p m) w) (hw:K w) (uE:∀ w',Ext w w'→K w') (lZ:qx m):CR 35 [(.pointer (some ⟨p,0,none⟩)),.int .i64 i] w (λ v w'=>lY (bK v (LP m i)) w w'):=by
 obtain ⟨a,hr⟩:=eO.rd hm hw;have YE:=hr.b.cell (o:=8) rfl;have cm0:=hr.b.cell (o:=0) rfl;have W8:=hr.b.cell (o:=1) rfl;have cm3:=hr.b.cell (o:=3) rfl;have cm9:=hr.b.cell (o:=9) rfl;have BL:=hr.b.cell (o:=10) rfl;have Cw:=hr.b.cell (o:=11) rfl;have xQ:=hr.b.cell (o:=12) rfl;have E4:=hr.b.cell (o:=13) rfl;have yS:=hr.b.cell (o:=14) rfl;have E5:=hr.b.cell (o:=15) rfl;have hs:=St.start w;refine ag8 _ _ _ _ ?_;unfold S35;refine ⟨λ jv w'=>jv = .bool (decide (i<0∨a.ps.length≤i))∧w=w',?_,?_⟩
 ·refine aR (aC (λ oC=>?_) (λ oC=>?_))
  ·exact ⟨Ph (by omega),rfl⟩
  ·refine aE (aA jg (cD py (xQ.ext hs.aF) (aJ ql (hr.ll.ext hs.aF) (dF ?_))));exact ⟨wW (by omega),rfl⟩
 ·rintro _ w1 ⟨rfl,hw⟩ fy;subst hw;refine aC (λ jm=>?_) (λ jm=>?_)
  ·rw [Xa (by have:=hr.len; omega)];exact (hs.fU (α:=bJ)).fresh
  ·refine aE (aA jg (cD py (xQ.ext hs.aF) ?_));obtain ⟨Xb,ve⟩:=gx (a.ps) (i:=(i).toNat) (by omega);refine aQ ql hr.ll (by omega) ve (λ _ wA=>aD zD (wA.ext hs.aF) ?_);obtain ⟨t,ht⟩:∃ t,m.l[i.toNat]? = some t:=⟨_,List.getElem?_eq_getElem (by have:=hr.len; omega)⟩;have yA:=(lZ.th t (List.mem_of_getElem? ht)).bl;have arc:=(lZ.th t (List.mem_of_getElem? ht)).rg;obtain ⟨bp,gl,rg,cn,_,ox,hB,Bw,YD⟩:=eF.rd (hr.th i.toNat _ _ ve ht);have W7:=ox.cell (o:=0) rfl;have ct5:=ox.cell (o:=5) rfl;have ct6:=ox.cell (o:=6) rfl;refine aE (aA mW (cD qW (W7.ext hs.aF) (cZ ah2 hs (C91 bp _ _ _ (hB.ext hs.aF) (by omega)) (λ x26 w2 bY hs=>?_))))
   rw [adv (by omega) ht];exact hs.fresh
def pO (m:Mem) (c:Int):Int:=if Oe m c=true then m.l.getD c.toNat 0 else 0
def He (m:gE) (t:fK) (x:aW):Int:=if (rF t.buf x.b).isSome=true then (rF t.buf x.b).getD 0 else pO m.mem x.b
def loadT (m:gE) (t:fK) (x:aW):fK:={t with aK:=t.aK.set x.a.toNat (He m t x)}
def LQ (m:gE) (t:fK) (x:aW):dC:=⟨if (rF t.buf x.b).isSome=true then 2 else 1,0,x.b,He m t x,0⟩
def ur (m:gE) (t:fK) (x:aW):bJ:=if x.kind=3 then ⟨3,m.u.lines.getD x.b.toNat 0,x.b,t.e⟩ else ⟨x.kind,x.b,0,0⟩
def vv (m:gE) (t:fK) (x:aW):fK:={t with buf:=wE m.room t.buf (ur m t x)}
def yT (k:Int):Int:=if k=3 then 3 else if k=5 then 4 else if k=6 then 5 else if k=7 then 6 else 0
def Ce (m:gE) (t:fK) (x:aW):dC:=⟨yT x.kind,0,x.b,(ur m t x).n,0⟩
def casT (m:gE) (t:fK) (x:aW):fK:={t with aK:=t.aK.set x.a.toNat (pO m.mem x.b)}
def BM (m:gE) (t:fK) (x:aW):gE:=if pO m.mem x.b=t.e then {m with mem:=iH m.mem x.b t.f} else m
def On (m:gE) (t:fK) (x:aW):dC:=if pO m.mem x.b=t.e then ⟨8,0,x.b,pO m.mem x.b,t.f⟩ else ⟨9,0,x.b,pO m.mem x.b,0⟩
def yj (m:gE) (i:Int) (x:aW):gE:={m with locks:=m.locks.set x.b.toNat i}
def uu (m:gE) (i:Int) (x:aW):gE:=if m.locks.getD x.b.toNat 0=i then {m with locks:=m.locks.set x.b.toNat (-1)} else {m with fault:=3,mO:=i}
def E6 (m:gE) (i:Int) (x:aW):dC:=if m.locks.getD x.b.toNat 0=i then ⟨11,0,x.b,0,0⟩ else ⟨16,0,3,0,0⟩
def dX (m:gE) (t:fK) (i:Int) (x:aW):gE × fK × dC:=
 if x.kind=2 then (m,loadT m t x,LQ m t x)
 else if x.kind=4 then (BM m t x,casT m t x,On m t x)
 else if x.kind=8 then (m,t,⟨7,0,0,0,0⟩)
 else if x.kind=9 then (yj m i x,t,⟨10,0,x.b,0,0⟩)
 else if x.kind=10 then (uu m i x,t,E6 m i x)
 else (m,vv m t x,Ce m t x)
theorem agl (p:Nat) (m:Mem) (c:Int) (w:World) (hm:vd w p m) (hk:vG m):CR 195 [.pointer (some ⟨p,0,none⟩),.int .i64 c] w (λ v w'=>v = .tuple #[.int .i64 (pO m c),.int .i64 (if Oe m c=true then 0 else 1)]∧Ext w w'):=C195 p m c w hm hk
theorem BN (m:Mem) (c n:Int):(iH m c n).of=m.of:=by unfold iH; split <;> rfl
theorem tu (m:Mem) (c n:Int):(iH m c n).cT=m.cT:=by unfold iH; split <;> rfl
theorem QQ (m:Mem) (c:Int):(vD m c).of=m.of:=by unfold vD; split <;> rfl
theorem Cf (m:Mem) (c:Int):(vD m c).cT=m.cT:=by unfold vD; split <;> rfl
theorem uq.write {ov fv:Value} {m:Mem} {w:World} {c n:Int} (h:uq ov fv m w):uq ov fv (iH m c n) w:=by unfold uq; rw [BN,tu]; exact h
theorem uq.out {ov fv:Value} {m:Mem} {w:World} {c:Int} (h:uq ov fv m w):uq ov fv (vD m c) w:=by unfold uq; rw [QQ,Cf]; exact h
theorem C130 (K:World→Prop) (p:Nat) (m:gE) (n:Nat) (tp:Ptr) (t:fK) (i:Int) (x:aW) (ge gf:SV) (F:Nat→Prop) (w:World) (hF:(sep (eF K tp.b m.room t) (kC K p m n tp)).p w F) (hK:∀ w',ix F w w'→K w') (yA:t.buf.length≤1000) (F0:vG m.mem) (tB:MB m.mem 1000000) (hxa:0≤x.a∧x.a<t.aK.length):CR 130 [(.pointer (some ⟨p,0,none⟩)),(.pointer (some ⟨tp.b,0,none⟩)),.int .i64 i,Flat.val (⟨x.kind,x.a,x.b,ge,gf,x.to⟩:bU)] w (λ v w'=>v=Flat.val (LQ m t x)∧qn F (sep (eF K tp.b m.room (loadT m t x)) (kC K p (m) n tp)) w w'):=by
 have hs:=(St.begin hF).split;obtain ⟨bp,gl,rg,cn,qN,hs⟩:=eF.open hs;obtain ⟨a,hx,hs⟩:=kC.open hs.p4;refine Zw _ _ _ _ _ _ ?_;unfold S130;refine dE (x:=(⟨x.kind,x.a,x.b,ge,gf,x.to⟩:bU)) hs (λ Bn w1 hs=>aN hs lD (λ Bl w2 hs=>aE (aA mW (have hs:=hs.drew;aB qW hs.p7.hb rfl (aA eX (aB (v:=.int .i64 x.b) bL hs.p1.hb rfl (aZ anB hs (C194 bp x.b m.room t.buf _ (QG hs.p8) (by omega)) (λ w3 he hs=>bE rfl (bE rfl ?_)))))))));refine ⟨_,?_,λ _ _ _ h=>h⟩;refine cB (aX (λ iO=>?_) (λ iO=>?_))
 ·refine aE (aA jH (have hs:=hs.drew;aB sd hs.p2.hb rfl (aA eX (aB (v:=.int .i64 x.b) bL hs.p1.hb rfl (aZ aeQ hs (agl a.q m.mem x.b _ (IX hs.p3 (hx.1.mem _ (hK _ hs.aF))) F0) (λ w4 he hs=>bE rfl (bE rfl ?_)))))));intro fy;refine aE (aA pz (have hs:=hs.drew;aB eu hs.p7.hb rfl (aA km (aB (v:=.int .i64 x.a) bL hs.p1.hb rfl ?_))));obtain ⟨afW,IV⟩:=gx (t.aK) (i:=(x.a).toNat) (by omega);refine dR hs.p9 dY (by omega) (by omega) (λ ard D6=>lJ _ hs.p9 bL D6 (by omega) (λ w6 hs=>aA eX (aB (v:=.int .i64 x.b) bL hs.p2.hb rfl (pop (pE _ _ _) (aI (x:=(⟨1,0,x.b,(pO m.mem x.b),0⟩:dC)) hs.p1 eZ rfl rfl (λ w7 hs=>aD eZ hs.At ?_))))))
  have hn:He m t x=(pO m.mem x.b):=by unfold He; rw [if_neg (by simpa using iO)]
  have hk:(if (rF t.buf x.b).isSome=true then (2:Int) else 1)=1:=by rw [if_neg (by simpa using iO)]
  have hs:=eF.shut (room:=m.room) (t:=(⟨t.code,t.at_,((t.aK).set (x.a).toNat (pO m.mem x.b)),t.counts,t.fault,t.e,t.f,t.buf⟩:fK)) qN hs.qI.p2.qI.qI;have hs:=((kC.shut (m:=m) (⟨⟨hx.1.ln,hx.1.cl,hx.1.rc,hx.1.mem⟩,hx.2⟩) hs.p7.p7.p7.p7.p7).p2).drop;have hs:=(hs.p2.drop).p1;refine ⟨?_,?_⟩
  ·unfold LQ; rw [hn,hk]
  ·rw [show loadT m t x=(⟨t.code,t.at_,((t.aK).set (x.a).toNat (pO m.mem x.b)),t.counts,t.fault,t.e,t.f,t.buf⟩:fK) from by unfold loadT; rw [hn]]; exact (St.join hs).mut
 ·intro fy;refine aE (aA pz (have hs:=hs.drew;aB eu hs.p7.hb rfl (aA km (aB (v:=.int .i64 x.a) bL hs.p1.hb rfl ?_))));obtain ⟨afW,IV⟩:=gx (t.aK) (i:=(x.a).toNat) (by omega);refine dR hs.p9 dY (by omega) (by omega) (λ ard D6=>lJ _ hs.p9 bL D6 (by omega) (λ w6 hs=>aA eX (aB (v:=.int .i64 x.b) bL hs.p2.hb rfl (pop (pE _ _ _) (aI (x:=(⟨2,0,x.b,((rF t.buf x.b).getD 0),0⟩:dC)) hs.p1 eZ rfl rfl (λ w7 hs=>aD eZ hs.At ?_))))));have hn:He m t x=((rF t.buf x.b).getD 0):=by unfold He; rw [if_pos (by simpa using iO)]
  have hk:(if (rF t.buf x.b).isSome=true then (2:Int) else 1)=2:=by rw [if_pos (by simpa using iO)]
  have hs:=eF.shut (room:=m.room) (t:=(⟨t.code,t.at_,((t.aK).set (x.a).toNat ((rF t.buf x.b).getD 0)),t.counts,t.fault,t.e,t.f,t.buf⟩:fK)) qN hs.qI.p2.qI.qI;have hs:=((kC.shut (m:=m) (⟨⟨hx.1.ln,hx.1.cl,hx.1.rc,hx.1.mem⟩,hx.2⟩) hs.p7.p7.p7.p7.p7).p2).drop;have hs:=(hs.p2.drop).p1;refine ⟨?_,?_⟩
  ·unfold LQ; rw [hn,hk]
  ·rw [show loadT m t x=(⟨t.code,t.at_,((t.aK).set (x.a).toNat ((rF t.buf x.b).getD 0)),t.counts,t.fault,t.e,t.f,t.buf⟩:fK) from by unfold loadT; rw [hn]]; exact (St.join hs).mut
theorem C132 (K:World→Prop) (p:Nat) (m:gE) (n:Nat) (tp:Ptr) (t:fK) (i:Int) (x:aW) (ge gf:SV) (F:Nat→Prop) (w:World) (hF:(sep (eF K tp.b m.room t) (kC K p m n tp)).p w F) (hK:∀ w',ix F w w'→K w') (yA:t.buf.length≤1000) (F0:vG m.mem) (tB:MB m.mem 1000000) (hxa:0≤x.a∧x.a<t.aK.length):CR 132 [(.pointer (some ⟨p,0,none⟩)),(.pointer (some ⟨tp.b,0,none⟩)),.int .i64 i,Flat.val (⟨x.kind,x.a,x.b,ge,gf,x.to⟩:bU)] w (λ v w'=>v=Flat.val (On m t x)∧qn F (sep (eF K tp.b m.room (casT m t x)) (kC K p (BM m t x) n tp)) w w'):=by
 have hs:=(St.begin hF).split;obtain ⟨bp,gl,rg,cn,qN,hs⟩:=eF.open hs;obtain ⟨a,hx,hs⟩:=kC.open hs.p4;refine Zy _ _ _ _ _ _ ?_;unfold S132;refine dE (x:=(⟨x.kind,x.a,x.b,ge,gf,x.to⟩:bU)) hs (λ Bn w1 hs=>aN hs lD (λ Bl w2 hs=>aE (aA jH (have hs:=hs.drew;aB sd hs.p2.hb rfl (aA eX (aB (v:=.int .i64 x.b) bL hs.p1.hb rfl (aZ aeQ hs (agl a.q m.mem x.b _ (IX hs.p3 (hx.1.mem _ (hK _ hs.aF))) F0) (λ w3 he hs=>bE rfl (bE rfl (aE (aA pz (have hs:=hs.drew;aB eu hs.p7.hb rfl ?_))))))))))));refine aA km (aB (v:=.int .i64 x.a) bL hs.p1.hb rfl ?_)
 obtain ⟨yd,yF⟩:=gx (t.aK) (i:=(x.a).toNat) (by omega);refine dR hs.p9 dY (by omega) (by omega) (λ _ wj=>lJ _ hs.p9 bL wj (by omega) (λ w4 hs=>aE (aA tN (aB bL hs.p8.hb rfl (cQ (aC (λ iC=>?_) (λ iC=>?_)))))))
 ·refine aA eX (aB (v:=.int .i64 x.b) bL hs.p2.hb rfl (pop (pE _ _ _) (aI (x:=(⟨9,0,x.b,(pO m.mem x.b),0⟩:dC)) hs.p1 eZ rfl rfl (λ w5 hs=>aD eZ hs.At ?_))));have MI:BM m t x=m:=by unfold BM; rw [if_neg iC]
  have hce:On m t x=⟨9,0,x.b,pO m.mem x.b,0⟩:=by unfold On; rw [if_neg iC]
  have hs:=eF.shut (room:=m.room) (t:=(⟨t.code,t.at_,((t.aK).set (x.a).toNat (pO m.mem x.b)),t.counts,t.fault,t.e,t.f,t.buf⟩:fK)) qN hs.qI.p2.qI.qI;have hs:=kC.shut (m:=m) (⟨⟨hx.1.ln,hx.1.cl,hx.1.rc,λ w hw=>by first | exact hx.1.mem w hw | exact (hx.1.mem w hw).write⟩,hx.2⟩) hs.p7.p7.p7.p7.p7;have hs:=((hs.p2.drop.p2).drop).p1;refine ⟨?_,?_⟩
  ·rw [hce]; try rfl
  ·rw [MI]; exact (St.join hs).mut
 ·refine aE (aA jH (have hs:=hs.drew;aB sd hs.p3.hb rfl (aA eX (aB (v:=.int .i64 x.b) bL hs.p2.hb rfl (aE (aA Dz (aB bL hs.p8.hb rfl (bG T3 hs.p4 (H':=λ _=>fW a.q a.ov a.fv (iH m.mem x.b t.f)) (Φ:=λ _ _=>True) (λ F2 eQ eA=>?_) ?_))))))))
  ·exact (C128 a.q a.ov a.fv m.mem F2 x.b _ _ eQ (λ w' hc=>hx.1.mem _ (hK w' (eA w' hc).aF)) F0 tB).mono λ _ _ r=>r.mono λ _ _ h=>⟨trivial,h.2⟩
  rintro _ w6 _ hs;refine aA eX (have hs:=hs.drew;aB (v:=.int .i64 x.b) bL hs.p3.hb rfl (aE (aA Dz (aB bL hs.p8.hb rfl (pop (FK _ _ _ _) (aI (x:=(⟨8,0,x.b,(pO m.mem x.b),t.f⟩:dC)) hs.p2 eZ rfl rfl (λ w7 hs=>aD eZ hs.At ?_)))))));have MI:BM m t x={m with mem:=iH m.mem x.b t.f}:=by unfold BM; rw [if_pos (by simpa using iC)]
  have hce:On m t x=⟨8,0,x.b,pO m.mem x.b,t.f⟩:=by unfold On; rw [if_pos (by simpa using iC)]
  have hs:=eF.shut (room:=m.room) (t:=(⟨t.code,t.at_,((t.aK).set (x.a).toNat (pO m.mem x.b)),t.counts,t.fault,t.e,t.f,t.buf⟩:fK)) qN hs.qI.p3.qI.qI;have hs:=kC.shut (m:={m with mem:=iH m.mem x.b t.f}) (⟨⟨hx.1.ln,hx.1.cl,hx.1.rc,λ w hw=>by first | exact hx.1.mem w hw | exact (hx.1.mem w hw).write⟩,hx.2⟩) hs.p7.p7.p7.p5.p7;have hs:=((hs.p2.drop.p2).drop).p1;refine ⟨?_,?_⟩
  ·rw [hce]; try rfl
  ·rw [MI]; exact (St.join hs).mut
theorem C133 (K:World→Prop) (p:Nat) (m:gE) (n:Nat) (tp:Ptr) (t:fK) (i:Int) (x:aW) (ge gf:SV) (F:Nat→Prop) (w:World) (hF:(sep (eF K tp.b m.room t) (kC K p m n tp)).p w F) (hK:∀ w',ix F w w'→K w') (yA:t.buf.length≤1000) (F0:vG m.mem) (tB:MB m.mem 1000000):CR 133 [(.pointer (some ⟨p,0,none⟩)),(.pointer (some ⟨tp.b,0,none⟩)),.int .i64 i,Flat.val (⟨x.kind,x.a,x.b,ge,gf,x.to⟩:bU)] w (λ v w'=>v=Flat.val ((⟨7,0,0,0,0⟩:dC))∧qn F (sep (eF K tp.b m.room (t)) (kC K p (m) n tp)) w w'):=by
 have hs:=(St.begin hF).split;obtain ⟨bp,gl,rg,cn,qN,hs⟩:=eF.open hs;obtain ⟨a,hx,hs⟩:=kC.open hs.p4;refine Zz _ _ _ _ _ _ ?_;unfold S133;refine dE (x:=(⟨x.kind,x.a,x.b,ge,gf,x.to⟩:bU)) hs (λ Bn w1 hs=>aN hs lD (λ Bl w2 hs=>pop (abB _) (aI (x:=(⟨7,0,0,0,0⟩:dC)) hs eZ rfl rfl (λ w3 hs=>aD eZ hs.At ?_))));have hs:=eF.shut (room:=m.room) (t:=(⟨t.code,t.at_,t.aK,t.counts,t.fault,t.e,t.f,t.buf⟩:fK)) qN hs.qI.qI.qI.qI;have hs:=((kC.shut (m:=m) (⟨⟨hx.1.ln,hx.1.cl,hx.1.rc,hx.1.mem⟩,hx.2⟩) hs.p7.p7.p7.p7.p7).p2).drop;have hs:=(hs.p2.drop).p1;refine ⟨?_,?_⟩
 ·rfl
 ·skip; exact (St.join hs).mut
theorem C134 (K:World→Prop) (p:Nat) (m:gE) (n:Nat) (tp:Ptr) (t:fK) (i:Int) (x:aW) (ge gf:SV) (F:Nat→Prop) (w:World) (hF:(sep (eF K tp.b m.room t) (kC K p m n tp)).p w F) (hK:∀ w',ix F w w'→K w') (yA:t.buf.length≤1000) (F0:vG m.mem) (tB:MB m.mem 1000000) (hxb:0≤x.b∧x.b<m.locks.length):CR 134 [(.pointer (some ⟨p,0,none⟩)),(.pointer (some ⟨tp.b,0,none⟩)),.int .i64 i,Flat.val (⟨x.kind,x.a,x.b,ge,gf,x.to⟩:bU)] w (λ v w'=>v=Flat.val ((⟨10,0,x.b,0,0⟩:dC))∧qn F (sep (eF K tp.b m.room (t)) (kC K p (yj m i x) n tp)) w w'):=by
 have hs:=(St.begin hF).split;obtain ⟨bp,gl,rg,cn,qN,hs⟩:=eF.open hs;obtain ⟨a,hx,hs⟩:=kC.open hs.p4;refine ZA _ _ _ _ _ _ ?_;unfold S134;refine dE (x:=(⟨x.kind,x.a,x.b,ge,gf,x.to⟩:bU)) hs (λ Bn w1 hs=>aN hs lD (λ Bl w2 hs=>aE (aA nS (have hs:=hs.drew;aB eu hs.p2.hb rfl (aA eX (aB (v:=.int .i64 x.b) bL hs.p1.hb rfl ?_))))));obtain ⟨GS,kR⟩:=gx (m.locks) (i:=(x.b).toNat) (by omega);refine dR hs.p4 dY (by omega) (by omega) (λ _ tY=>lJ _ hs.p4 bL tY (by omega) (λ w3 hs=>aA eX (aB (v:=.int .i64 x.b) bL hs.p2.hb rfl (pop (Bg _ _) (aI (x:=(⟨10,0,x.b,0,0⟩:dC)) hs.p1 eZ rfl rfl (λ w4 hs=>aD eZ hs.At ?_))))))
 have hs:=eF.shut (room:=m.room) (t:=(⟨t.code,t.at_,t.aK,t.counts,t.fault,t.e,t.f,t.buf⟩:fK)) qN hs.qI.qI.qI.qI;have hs:=kC.shut (m:=(yj m i x)) (⟨⟨hx.1.ln,hx.1.cl,hx.1.rc,hx.1.mem⟩,hx.2⟩) hs.p7.p7.p4.p7.p7;have hs:=((hs.p2.drop.p2).drop).p1;refine ⟨?_,?_⟩
 ·rfl
 ·skip; exact (St.join hs).mut
theorem C135 (K:World→Prop) (p:Nat) (m:gE) (n:Nat) (tp:Ptr) (t:fK) (i:Int) (x:aW) (ge gf:SV) (F:Nat→Prop) (w:World) (hF:(sep (eF K tp.b m.room t) (kC K p m n tp)).p w F) (hK:∀ w',ix F w w'→K w') (yA:t.buf.length≤1000) (F0:vG m.mem) (tB:MB m.mem 1000000) (hxb:0≤x.b∧x.b<m.locks.length):CR 135 [(.pointer (some ⟨p,0,none⟩)),(.pointer (some ⟨tp.b,0,none⟩)),.int .i64 i,Flat.val (⟨x.kind,x.a,x.b,ge,gf,x.to⟩:bU)] w (λ v w'=>v=Flat.val (E6 m i x)∧qn F (sep (eF K tp.b m.room (t)) (kC K p (uu m i x) n tp)) w w'):=by
 have hs:=(St.begin hF).split;obtain ⟨bp,gl,rg,cn,qN,hs⟩:=eF.open hs;obtain ⟨a,hx,hs⟩:=kC.open hs.p4;refine ZB _ _ _ _ _ _ ?_;unfold S135;refine dE (x:=(⟨x.kind,x.a,x.b,ge,gf,x.to⟩:bU)) hs (λ Bn w1 hs=>aN hs lD (λ Bl w2 hs=>aE (aA nS (have hs:=hs.drew;aB eu hs.p2.hb rfl (aA eX (aB (v:=.int .i64 x.b) bL hs.p1.hb rfl ?_))))));obtain ⟨pH,jU⟩:=gx (m.locks) (i:=(x.b).toNat) (by omega);refine dR hs.p4 dY (by omega) (by omega) (λ _ rh=>ga hs.p4 bL rh jU (cQ (aC (λ gh=>?_) (λ gh=>?_))))
 ·refine aE (aA nT (aV hs.p2 bL (eI rfl) (rfl) (λ w3 hs=>aE (aA Dy (aV hs bL (eI rfl) (rfl) (λ w4 hs=>pop (Bg _ _) (aI (x:=(⟨16,0,3,0,0⟩:dC)) hs.p1 eZ rfl rfl (λ w5 hs=>aD eZ hs.At ?_))))))));have hgd:m.locks.getD x.b.toNat 0=pH:=by rw [List.getD_eq_getElem?_getD,jU]; rfl
  have hgm:uu m i x={m with fault:=3,mO:=i}:=by unfold uu; rw [hgd,if_neg gh]
  have HY:E6 m i x=⟨16,0,3,0,0⟩:=by unfold E6; rw [hgd,if_neg gh]
  have hs:=eF.shut (room:=m.room) (t:=(⟨t.code,t.at_,t.aK,t.counts,t.fault,t.e,t.f,t.buf⟩:fK)) qN hs.qI.qI.qI.qI;have hs:=kC.shut (m:={m with fault:=3,mO:=i}) (⟨⟨hx.1.ln,hx.1.cl,hx.1.rc,hx.1.mem⟩,hx.2⟩) hs.p7.p7.p7.p7.p6;have hs:=((hs.p2.drop.p2).drop).p1;refine ⟨?_,?_⟩
  ·rw [HY]; try rfl
  ·rw [hgm]; exact (St.join hs).mut
 ·refine aE (aA nS (have hs:=hs.drew;aB eu hs.p2.hb rfl (aA eX (aB (v:=.int .i64 x.b) bL hs.p1.hb rfl (dR hs.p4 dY (by omega) (by omega) (λ _ Aa=>lJ _ hs.p4 bL Aa (by omega) (λ w6 hs=>aA eX (aB (v:=.int .i64 x.b) bL hs.p2.hb rfl (pop (Bg _ _) (aI (x:=(⟨11,0,x.b,0,0⟩:dC)) hs.p1 eZ rfl rfl (λ w7 hs=>aD eZ hs.At ?_)))))))))));have hgd:m.locks.getD x.b.toNat 0=pH:=by rw [List.getD_eq_getElem?_getD,jU]; rfl
  have hgm:uu m i x={m with locks:=m.locks.set x.b.toNat (-1)}:=by unfold uu; rw [hgd,if_pos (by simpa using gh)]
  have HY:E6 m i x=⟨11,0,x.b,0,0⟩:=by unfold E6; rw [hgd,if_pos (by simpa using gh)]
  have hs:=eF.shut (room:=m.room) (t:=(⟨t.code,t.at_,t.aK,t.counts,t.fault,t.e,t.f,t.buf⟩:fK)) qN hs.qI.qI.qI.qI;have hs:=kC.shut (m:={m with locks:=m.locks.set x.b.toNat (-1)}) (⟨⟨hx.1.ln,hx.1.cl,hx.1.rc,hx.1.mem⟩,hx.2⟩) hs.p7.p7.p4.p7.p7;have hs:=((hs.p2.drop.p2).drop).p1;refine ⟨?_,?_⟩
  ·rw [HY]; try rfl
  ·rw [hgm]; exact (St.join hs).mut
theorem C131 (K:World→Prop) (p:Nat) (m:gE) (n:Nat) (tp:Ptr) (t:fK) (i:Int) (x:aW) (ge gf:SV) (F:Nat→Prop) (w:World) (hF:(sep (eF K tp.b m.room t) (kC K p m n tp)).p w F) (hK:∀ w',ix F w w'→K w') (yA:t.buf.length≤1000) (F0:vG m.mem) (tB:MB m.mem 1000000) (hkd:x.kind=3∨x.kind=5∨x.kind=6∨x.kind=7) (Pe:x.kind=3→0≤x.b∧x.b<m.u.lines.length):CR 131 [(.pointer (some ⟨p,0,none⟩)),(.pointer (some ⟨tp.b,0,none⟩)),.int .i64 i,Flat.val (⟨x.kind,x.a,x.b,ge,gf,x.to⟩:bU)] w (λ v w'=>v=Flat.val (Ce m t x)∧qn F (sep (eF K tp.b m.room (vv m t x)) (kC K p (m) n tp)) w w'):=by
 have hs:=(St.begin hF).split;obtain ⟨bp,gl,rg,cn,qN,hs⟩:=eF.open hs;obtain ⟨a,hx,hs⟩:=kC.open hs.p4;refine Zx _ _ _ _ _ _ ?_;unfold S131;refine dE (x:=(⟨x.kind,x.a,x.b,ge,gf,x.to⟩:bU)) hs (λ Bn w1 hs=>aN hs lD (λ Bl w2 hs=>wF hs (λ VH w3 hs=>g9 hs Tryz.underlying272 oN (by decide) (λ w4 hs=>g9 hs Tryz.underlying272 oN (by decide) (λ w5 hs=>g9 hs Tryz.underlying272 oN (by decide) (λ w6 hs=>g9 hs Tryz.underlying272 oN (by decide) (λ w7 hs=>aA jh (aB (v:=.int .i64 x.kind) bL hs.p2.hb rfl (aA eX (aB (v:=.int .i64 x.b) bL hs.p2.hb rfl (pop (Nb _ _) (aN hs uM (λ b_y10 w8 hs=>?_)))))))))))))
 refine aI (x:=(⟨x.kind,x.b,0,0⟩:bJ)) hs kY rfl rfl (λ w9 hs=>?_);refine ⟨_,?_,λ _ h=>h⟩;refine aA jh (aB (v:=.int .i64 x.kind) bL hs.p3.hb rfl (aH (aC (λ jy=>?_) (λ jy=>?_))))
 ·have hxb:=Pe jy;refine aE (aA tL (aA mz (have hs:=hs.drew;aB eu hs.p4.hb rfl (aA eX (aB (v:=.int .i64 x.b) bL hs.p3.hb rfl ?_)))));obtain ⟨yd,yF⟩:=gx (m.u.lines) (i:=(x.b).toNat) (by omega);refine aQ dY (hx.1.ln _ (hK _ hs.aF)) (by omega) yF (λ _ wj=>aD bL (wj) (aA eX (aB (v:=.int .i64 x.b) bL hs.p3.hb rfl (aE (aA tN (aB bL hs.p9.hb rfl (aA kZ (aV hs bL (eI rfl) (rfl) (λ pS hs=>?_)))))))));have hs:=hs.enc (cs':=Flat.enc ({ (⟨x.kind,x.b,0,0⟩:bJ) with line:=yd}:bJ)) rfl;refine ⟨aG bL (hs.p3.hb.cell rfl),?_⟩
  refine ⟨aG bL (hs.p9.hb.cell rfl),?_⟩;refine aA nU (aV hs bL (eI rfl) (rfl) (λ sU hs=>?_));have hs:=hs.enc (cs':=Flat.enc ({ ({ (⟨x.kind,x.b,0,0⟩:bJ) with line:=yd}:bJ) with cell:=x.b}:bJ)) rfl;refine ⟨aG bL (hs.p9.hb.cell rfl),?_⟩;refine aA mX (aV hs bL (eI rfl) (rfl) (λ vm hs=>?_));have hs:=hs.enc (cs':=Flat.enc ({ ({ ({ (⟨x.kind,x.b,0,0⟩:bJ) with line:=yd}:bJ) with cell:=x.b}:bJ) with n:=t.e}:bJ)) rfl;intro fy;refine aE (aA mW (have hs:=hs.drew;aB qW hs.p9.hb rfl ?_));have hpy:ur m t x=({ ({ ({ (⟨x.kind,x.b,0,0⟩:bJ) with line:=yd}:bJ) with cell:=x.b}:bJ) with n:=t.e}:bJ):=by unfold ur; rw [if_pos jy,List.getD_eq_getElem?_getD,yF,← jy]; rfl
  refine aD kY hs.At (bG aeR hs.qI (H':=λ _=>nK bp m.room (wE m.room t.buf (ur m t x))) (Φ:=λ _ _=>True) (λ F2 eQ eA=>?_) ?_)
  ·rw [hpy]; exact (C196 bp m.room t.buf ({ ({ ({ (⟨x.kind,x.b,0,0⟩:bJ) with line:=yd}:bJ) with cell:=x.b}:bJ) with n:=t.e}:bJ) F2 _ eQ (by omega)).mono λ _ _ r=>r.mono λ _ _ h=>⟨trivial,h.2⟩
  rintro _ sm _ hs;refine aA jh (aB (v:=.int .i64 x.kind) bL hs.p4.hb rfl ?_)
  have ME:(Go.Fw.look [3,5,6,7] [Value.int .i64 3,.int .i64 4,.int .i64 5,.int .i64 6] x.kind).getD (.int .i64 0) = .int .i64 (yT x.kind):=by
   have hk4:=hkd
   rcases hk4 with h | h | h | h <;> rw [h] <;> rfl
  refine ⟨_,o8 hs.p2.Am Tryz.underlying272 oN BY,?_⟩;rw [show (Go.Fw.look ([]++[3]++[5]++[6]++[7]) ([]++[Value.int .i64 3]++[Value.int .i64 4]++[Value.int .i64 5]++[Value.int .i64 6]) x.kind).getD (.int .i64 0) = .int .i64 (yT x.kind) from ME];refine aA eX (aB (v:=.int .i64 x.b) bL hs.p4.hb rfl (aA mX (aB (v:=.int .i64 ((({ ({ ({ (⟨x.kind,x.b,0,0⟩:bJ) with line:=yd}:bJ) with cell:=x.b}:bJ) with n:=t.e}:bJ)).n)) bL hs.p1.hb rfl (pop (pE _ _ _) (aI (x:=(⟨(yT x.kind),0,x.b,(({ ({ ({ (⟨x.kind,x.b,0,0⟩:bJ) with line:=yd}:bJ) with cell:=x.b}:bJ) with n:=t.e}:bJ)).n,0⟩:dC)) hs.p3 eZ rfl rfl (λ v7 hs=>aD eZ hs.At ?_))))))
  have hs:=eF.shut (room:=m.room) (t:=(⟨t.code,t.at_,t.aK,t.counts,t.fault,t.e,t.f,(wE m.room t.buf (ur m t x))⟩:fK)) qN hs.p12.p12.p3.p12;have hs:=((kC.shut (m:=m) (⟨⟨hx.1.ln,hx.1.cl,hx.1.rc,hx.1.mem⟩,hx.2⟩) hs.p9.p9.p9.p9.p9).p2).drop;have hs:=(((hs.p2.drop.p2.drop).p2).drop).p1;refine ⟨?_,?_⟩
  ·unfold Ce; rw [hpy]
  ·rw [show vv m t x=(⟨t.code,t.at_,t.aK,t.counts,t.fault,t.e,t.f,(wE m.room t.buf (ur m t x))⟩:fK) from rfl]; exact (St.join hs).mut
 ·intro fy;refine aE (aA mW (have hs:=hs.drew;aB qW hs.p9.hb rfl ?_));have hpy:ur m t x=(⟨x.kind,x.b,0,0⟩:bJ):=by unfold ur; rw [if_neg jy]
  refine aD kY hs.At (bG aeR hs.qI (H':=λ _=>nK bp m.room (wE m.room t.buf (ur m t x))) (Φ:=λ _ _=>True) (λ F2 eQ eA=>?_) ?_)
  ·rw [hpy]; exact (C196 bp m.room t.buf (⟨x.kind,x.b,0,0⟩:bJ) F2 _ eQ (by omega)).mono λ _ _ r=>r.mono λ _ _ h=>⟨trivial,h.2⟩
  rintro _ sm _ hs;refine aA jh (aB (v:=.int .i64 x.kind) bL hs.p4.hb rfl ?_)
  have ME:(Go.Fw.look [3,5,6,7] [Value.int .i64 3,.int .i64 4,.int .i64 5,.int .i64 6] x.kind).getD (.int .i64 0) = .int .i64 (yT x.kind):=by
   have hk4:=hkd
   rcases hk4 with h | h | h | h <;> rw [h] <;> rfl
  refine ⟨_,o8 hs.p2.Am Tryz.underlying272 oN BY,?_⟩;rw [show (Go.Fw.look ([]++[3]++[5]++[6]++[7]) ([]++[Value.int .i64 3]++[Value.int .i64 4]++[Value.int .i64 5]++[Value.int .i64 6]) x.kind).getD (.int .i64 0) = .int .i64 (yT x.kind) from ME];refine aA eX (aB (v:=.int .i64 x.b) bL hs.p4.hb rfl (aA mX (aB (v:=.int .i64 (((⟨x.kind,x.b,0,0⟩:bJ)).n)) bL hs.p1.hb rfl (pop (pE _ _ _) (aI (x:=(⟨(yT x.kind),0,x.b,((⟨x.kind,x.b,0,0⟩:bJ)).n,0⟩:dC)) hs.p3 eZ rfl rfl (λ v7 hs=>aD eZ hs.At ?_))))));have hs:=eF.shut (room:=m.room) (t:=(⟨t.code,t.at_,t.aK,t.counts,t.fault,t.e,t.f,(wE m.room t.buf (ur m t x))⟩:fK)) qN hs.p12.p12.p3.p12
  have hs:=((kC.shut (m:=m) (⟨⟨hx.1.ln,hx.1.cl,hx.1.rc,hx.1.mem⟩,hx.2⟩) hs.p9.p9.p9.p9.p9).p2).drop;have hs:=(((hs.p2.drop.p2.drop).p2).drop).p1;refine ⟨?_,?_⟩
  ·unfold Ce; rw [hpy]
  ·rw [show vv m t x=(⟨t.code,t.at_,t.aK,t.counts,t.fault,t.e,t.f,(wE m.room t.buf (ur m t x))⟩:fK) from rfl]; exact (St.join hs).mut
def ia (m:Mem) (x:bJ):Mem:=if x.kind=3 then iH m x.cell x.n else if x.kind=7 then m else vD m x.line
def pP (t:Int) (x:bJ):dC:=if x.kind=3 then ⟨12,t,x.cell,x.n,0⟩ else if x.kind=7 then ⟨14,t,0,0,0⟩ else ⟨13,t,x.line,0,0⟩
def mB (m:gE) (t:fK) (p:et):gE:={m with mem:=ia m.mem (ej t.buf p.i),l:=m.l.set p.t.toNat {t with buf:=ml t.buf p.i}}
section
variable {m:gE} {t:fK} {i:Int} {x:aW}
theorem xq:(dX m t i x).1.room=m.room:=by
 unfold dX BM yj uu; repeat' split
 all_goals rfl
theorem I8:(dX m t i x).1.l=m.l:=by
 unfold dX BM yj uu; repeat' split
 all_goals rfl
theorem Oo:(dX m t i x).1.u=m.u:=by
 unfold dX BM yj uu; repeat' split
 all_goals rfl
theorem CV:(dX m t i x).2.1.at_=t.at_:=by
 unfold dX loadT casT vv; repeat' split
 all_goals rfl
theorem qO:(dX m t i x).2.1.code=t.code:=by
 unfold dX loadT casT vv; repeat' split
 all_goals rfl
theorem Xd {room:Int} {l:List bJ} {y:bJ}:(wE room l y).length≤l.length∨((wE room l y).length:Int)≤room:=by
 unfold wE; split
 ·rename_i h; right; simp; omega
 ·left; exact Nat.le_refl _
theorem QR (h:G9 t) (hr:m.room≤16):G9 (dX m t i x).2.1:=by
 have h1:=h.rg; have h2:=h.cn; have h3:=h.Tm; have h4:=h.bl
 have h5:=Xd (room:=m.room) (l:=t.buf) (y:=ur m t x)
 unfold dX loadT casT vv
 repeat' split
 all_goals first
  | exact h
  | exact ⟨h.code,by simpa using h1,h2,h3,h4⟩
  | exact ⟨h.code,h1,h2,h3,by dsimp only; omega⟩
end
def mI (N:Nat) (m:gE) (i:Int):Option (gE × dC):=match m.l[i.toNat]? with
 | none=>none
 | some t=>if t.fault≠0 then some ({m with fault:=t.fault,mO:=i},⟨16,i,t.fault,0,0⟩) else match gS t with
  | none=>none
  | some x=>if (dX m t i x).1.fault=0 then
    (sN N { (dX m t i x).2.1 with at_:=(dX m t i x).2.1.at_+1}).map λ t2=>({ (dX m t i x).1 with l:=(dX m t i x).1.l.set i.toNat t2},{ (dX m t i x).2.2 with t:=i})
   else some ({ (dX m t i x).1 with l:=(dX m t i x).1.l.set i.toNat (dX m t i x).2.1},{ (dX m t i x).2.2 with t:=i})
theorem AA {N:Nat} {m m':gE} {i:Int} {t:fK} {ev:dC} (h:mI N m i=some (m',ev)) (ht:m.l[i.toNat]? = some t) (hf:t.fault≠0):m'={m with fault:=t.fault,mO:=i}∧ev=⟨16,i,t.fault,0,0⟩:=by
 unfold mI at h; rw [ht] at h; dsimp only at h; rw [if_pos hf] at h
 have:=Option.some.inj h
 exact ⟨(congrArg Prod.fst this).symm,(congrArg Prod.snd this).symm⟩
theorem AB {N:Nat} {m m':gE} {i:Int} {t:fK} {ev:dC} (h:mI N m i=some (m',ev)) (ht:m.l[i.toNat]? = some t) (hf:¬ t.fault≠0):∃ x,gS t=some x:=by
 unfold mI at h; rw [ht] at h; dsimp only at h; rw [if_neg hf] at h
 cases hn:gS t with
 | none=>rw [hn] at h; cases h
 | some x=>exact ⟨x,rfl⟩
theorem AD {N:Nat} {m m':gE} {i:Int} {t:fK} {x:aW} {ev:dC} (h:mI N m i=some (m',ev)) (ht:m.l[i.toNat]? = some t) (hf:¬ t.fault≠0) (hn:gS t=some x) (h0:(dX m t i x).1.fault=0) :
  ∃ t2,sN N { (dX m t i x).2.1 with at_:=(dX m t i x).2.1.at_+1}=some t2∧m'={ (dX m t i x).1 with l:=(dX m t i x).1.l.set i.toNat t2}∧ev={ (dX m t i x).2.2 with t:=i}:=by
 unfold mI at h; rw [ht] at h; dsimp only at h; rw [if_neg hf,hn] at h; dsimp only at h; rw [if_pos h0] at h
 cases hg:sN N { (dX m t i x).2.1 with at_:=(dX m t i x).2.1.at_+1} with
 | none=>rw [hg] at h; cases h
 | some t2=>
  rw [hg] at h
  have:=Option.some.inj h
  exact ⟨t2,rfl,(congrArg Prod.fst this).symm,(congrArg Prod.snd this).symm⟩
theorem AE {N:Nat} {m m':gE} {i:Int} {t:fK} {x:aW} {ev:dC} (h:mI N m i=some (m',ev)) (ht:m.l[i.toNat]? = some t) (hf:¬ t.fault≠0) (hn:gS t=some x) (h0:¬ (dX m t i x).1.fault=0) :
  m'={ (dX m t i x).1 with l:=(dX m t i x).1.l.set i.toNat (dX m t i x).2.1}∧ev={ (dX m t i x).2.2 with t:=i}:=by
 unfold mI at h; rw [ht] at h; dsimp only at h; rw [if_neg hf,hn] at h; dsimp only at h; rw [if_neg h0] at h
 have:=Option.some.inj h
 exact ⟨(congrArg Prod.fst this).symm,(congrArg Prod.snd this).symm⟩
def Xe:List Int:=[]++[2]++[3]++[5]++[6]++[7]++[4]++[8]++[9]++[10]
def Oq (g:Nat):Value:=.func (.func g) #[] #[]
def Xf:List Value:=[]++[Oq 130]++[Oq 131]++[Oq 131]++[Oq 131]++[Oq 131]++[Oq 132]++[Oq 133]++[Oq 134]++[Oq 135]
theorem Xg (K:World→Prop) (p:Nat) (m:gE) (n:Nat) (tp:Ptr) (t:fK) (i:Int) (x:aW) (ge gf:SV) (hk:2≤x.kind∧x.kind≤10) (yA:t.buf.length≤1000) (F0:vG m.mem) (tB:MB m.mem 1000000)
  (hxa:x.kind=2∨x.kind=4→0≤x.a∧x.a<t.aK.length) (hxb:x.kind=9∨x.kind=10→0≤x.b∧x.b<m.locks.length) (Pe:x.kind=3→0≤x.b∧x.b<m.u.lines.length) :
  ∃ g,Go.Fw.look Xe Xf x.kind=some (Oq g)∧Plain PG g∧∀ (F:Nat→Prop) (w:World),(sep (eF K tp.b m.room t) (kC K p m n tp)).p w F→(∀ w',ix F w w'→K w')→
   Calls PG g [.pointer (some ⟨p,0,none⟩),.pointer (some ⟨tp.b,0,none⟩),.int .i64 i,Flat.val (⟨x.kind,x.a,x.b,ge,gf,x.to⟩:bU)].toArray w
    (pU λ v w'=>v=Flat.val (dX m t i x).2.2∧qn F (sep (eF K tp.b (dX m t i x).1.room (dX m t i x).2.1) (kC K p (dX m t i x).1 n tp)) w w'):=by
 have hr:=xq (m:=m) (t:=t) (i:=i) (x:=x)
 rw [hr]
 obtain h | h | h | h | h | h | h | h | h:x.kind=2∨x.kind=3∨x.kind=4∨x.kind=5∨x.kind=6∨x.kind=7∨x.kind=8∨x.kind=9∨x.kind=10:=by omega
 ·exact ⟨130,by rw [h]; rfl,am6,λ F w hF hK=>by
   have e:dX m t i x=(m,loadT m t x,LQ m t x):=by unfold dX; rw [if_pos h]
   rw [e]; exact C130 K p m n tp t i x ge gf F w hF hK yA F0 tB (hxa (.inl h))⟩
 ·exact ⟨131,by rw [h]; rfl,Pm,λ F w hF hK=>by
   have e:dX m t i x=(m,vv m t x,Ce m t x):=by unfold dX; simp [h]
   rw [e]; exact C131 K p m n tp t i x ge gf F w hF hK yA F0 tB (.inl h) Pe⟩
 ·exact ⟨132,by rw [h]; rfl,am7,λ F w hF hK=>by
   have e:dX m t i x=(BM m t x,casT m t x,On m t x):=by unfold dX; simp [h]
   rw [e]; exact C132 K p m n tp t i x ge gf F w hF hK yA F0 tB (hxa (.inr h))⟩
 ·exact ⟨131,by rw [h]; rfl,Pm,λ F w hF hK=>by
   have e:dX m t i x=(m,vv m t x,Ce m t x):=by unfold dX; simp [h]
   rw [e]; exact C131 K p m n tp t i x ge gf F w hF hK yA F0 tB (.inr (.inl h)) Pe⟩
 ·exact ⟨131,by rw [h]; rfl,Pm,λ F w hF hK=>by
   have e:dX m t i x=(m,vv m t x,Ce m t x):=by unfold dX; simp [h]
   rw [e]; exact C131 K p m n tp t i x ge gf F w hF hK yA F0 tB (.inr (.inr (.inl h))) Pe⟩
 ·exact ⟨131,by rw [h]; rfl,Pm,λ F w hF hK=>by
   have e:dX m t i x=(m,vv m t x,Ce m t x):=by unfold dX; simp [h]
   rw [e]; exact C131 K p m n tp t i x ge gf F w hF hK yA F0 tB (.inr (.inr (.inr h))) Pe⟩
 ·exact ⟨133,by rw [h]; rfl,am8,λ F w hF hK=>by
   have e:dX m t i x=(m,t,⟨7,0,0,0,0⟩):=by unfold dX; simp [h]
   rw [e]; exact C133 K p m n tp t i x ge gf F w hF hK yA F0 tB⟩
 ·exact ⟨134,by rw [h]; rfl,am9,λ F w hF hK=>by
   have e:dX m t i x=(yj m i x,t,⟨10,0,x.b,0,0⟩):=by unfold dX; simp [h]
   rw [e]; exact C134 K p m n tp t i x ge gf F w hF hK yA F0 tB (hxb (.inl h))⟩
 ·exact ⟨135,by rw [h]; rfl,ana,λ F w hF hK=>by
   have e:dX m t i x=(uu m i x,t,E6 m i x):=by unfold dX; simp [h]
   rw [e]; exact C135 K p m n tp t i x ge gf F w hF hK yA F0 tB (hxb (.inr h))⟩
theorem Xh {k:Int} {g:Nat} {z:Value} (h:Go.Fw.look Xe Xf k=some (Oq g)):(Go.Fw.look ([]++[2]++[3]++[5]++[6]++[7]++[4]++[8]++[9]++[10]) ([]++[Value.func (.func 130) #[] #[]]++[Value.func (.func 131) #[] #[]]++[Value.func (.func 131) #[] #[]]++[Value.func (.func 131) #[] #[]]++[Value.func (.func 131) #[] #[]]++[Value.func (.func 132) #[] #[]]++[Value.func (.func 133) #[] #[]]++[Value.func (.func 134) #[] #[]]++[Value.func (.func 135) #[] #[]]) k).getD z=Oq g:=by
 have h2:Go.Fw.look ([]++[2]++[3]++[5]++[6]++[7]++[4]++[8]++[9]++[10]) ([]++[Value.func (.func 130) #[] #[]]++[Value.func (.func 131) #[] #[]]++[Value.func (.func 131) #[] #[]]++[Value.func (.func 131) #[] #[]]++[Value.func (.func 131) #[] #[]]++[Value.func (.func 132) #[] #[]]++[Value.func (.func 133) #[] #[]]++[Value.func (.func 134) #[] #[]]++[Value.func (.func 135) #[] #[]]) k=some (Oq g):=h
 rw [h2]; rfl
theorem C62 (K:World→Prop) (p:Nat) (m:gE) (q:et) (qv:dZ) (t:fK) (F:Nat→Prop) (w:World) (hF:(eO K p m).p w F) (hK:∀ w',ix F w w'→K w') (lZ:qx m) (tB:MB m.mem 1000000) (hq:bZ.dr w qv q) (h0:0≤q.t) (ht:m.l[q.t.toNat]? = some t):CR 62 [(.pointer (some ⟨p,0,none⟩)),Flat.val qv] w (λ v w'=>v=Flat.val (pP q.t (ej t.buf q.i))∧qn F (eO K p (mB m t q)) w w'):=by
 have hs:=St.begin hF;obtain ⟨a,hu,hs⟩:=eO.open hs;have wJ:=hs.p4.lj;obtain ⟨QP,rfl,ady⟩:=hq;have yA:=(lZ.th t (List.mem_of_getElem? ht)).bl;have mD:=(List.getElem?_eq_some_iff.1 ht).1;refine ahz _ _ _ _ ?_;unfold S62;refine dE hs (λ wq w1 hs=>aN hs lD (λ Cr w2 hs=>?_));refine ⟨_,?_,λ _ _ h=>h⟩;refine aE (aA jg (have hs:=hs.drew;aB py hs.p2.hb rfl (aA jG (aB (v:=.int .i64 ((q).t)) bL hs.p1.hb rfl ?_))));obtain ⟨jl,dD⟩:=gx (a.ps) (i:=((q).t).toNat) (by omega);refine dR hs.p5 ql (by omega) (by omega) (λ _ iN=>ga hs.p5 zD iN dD ?_)
 have hs:=W6 hs.p6 dD ht;obtain ⟨bp,gl,rg,cn,qN,hs⟩:=eF.open hs;refine aE (aA mW (aB qW hs.hb rfl (aA xc (aB (v:=.int .i64 ((q).i)) bL hs.p6.hb rfl ?_))));refine ⟨?_,?_⟩
 ·refine bG aeG hs.p1 (H':=λ _=>nK bp m.room (ml t.buf q.i)) (Φ:=λ v _=>v = .tuple #[Flat.val (ej t.buf q.i),.int .i64 (Al t.buf q.i)]) (λ F2 eQ eA=>?_) ?_
  ·exact C127 bp m.room t.buf q.i F2 _ eQ (by omega)
  rintro _ w3 rfl hs;refine bE rfl (bE rfl (aN hs uM (λ uf w4 hs=>?_)));refine ⟨aG py (hs.p8.hb.cell rfl),?_⟩;refine ⟨aG bL (hs.p7.hb.cell rfl),?_⟩;refine ⟨PV hs.p11 zD iN dD,?_⟩;refine ⟨aG qW (hs.p2.hb.cell rfl),?_⟩;refine ⟨aG bL (hs.p7.hb.cell rfl),?_⟩;refine aI (x:=(ej t.buf q.i)) hs kY rfl rfl (λ w5 hs=>?_);intro fy;refine aA pA (aB (v:=.int .i64 (((ej t.buf q.i)).kind)) bL hs.hb rfl (aH (aC (λ gj=>?_) (λ gj=>?_))))
  ·refine aE (aA jH (have hs:=hs.drew;aB sd hs.p8.hb rfl (aA nU (aB (v:=.int .i64 (((ej t.buf q.i)).cell)) bL hs.hb rfl (aA mX (aB (v:=.int .i64 (((ej t.buf q.i)).n)) bL hs.hb rfl (bG T3 hs.p9 (H':=λ _=>fW a.q a.ov a.fv (iH m.mem ((ej t.buf q.i)).cell ((ej t.buf q.i)).n)) (Φ:=λ _ _=>True) (λ F2 eQ eA=>?_) ?_)))))))
   ·exact (C128 a.q a.ov a.fv m.mem F2 _ _ _ eQ (λ w' hc=>hu.mem _ (hK w' (eA w' hc).aF)) lZ.mem tB).mono λ _ _ r=>r.mono λ _ _ h=>⟨trivial,h.2⟩
   rintro _ pS _ hs;refine aA jG (aB (v:=.int .i64 ((q).t)) bL hs.p8.hb rfl (aA nU (aB (v:=.int .i64 (((ej t.buf q.i)).cell)) bL hs.p1.hb rfl (aA mX (aB (v:=.int .i64 (((ej t.buf q.i)).n)) bL hs.p1.hb rfl (pop (xZ _ _ _ _) (aI (x:=(⟨12,(q).t,((ej t.buf q.i)).cell,((ej t.buf q.i)).n,0⟩:dC)) hs.p7 eZ rfl rfl (λ sU hs=>aD eZ hs.At ?_))))))));have hs:=(eF.shut (room:=m.room) (t:={t with buf:=ml t.buf q.i}) qN hs.p6.p6.p5.p6).p4;have hs:=St.sj (H:=qc K m.room) (x:={t with buf:=ml t.buf q.i}) hs.p1 (by have:=(List.getElem?_eq_some_iff.1 ht).1; omega) wJ dD
   have IY:ia m.mem (ej t.buf q.i)=iH m.mem (ej t.buf q.i).cell (ej t.buf q.i).n:=by unfold ia; rw [if_pos gj]
   have Xi:pP q.t (ej t.buf q.i)=⟨12,q.t,(ej t.buf q.i).cell,(ej t.buf q.i).n,0⟩:=by unfold pP; rw [if_pos gj]
   have hs:=(show St w F (cE p (jX a (mB m t q))::fW a.q a.ov a.fv (mB m t q).mem::_) _ from by unfold mB; rw [IY]; exact hs.p7.p7.p4.p7);have hs:=eO.shut (m:=mB m t q) ⟨hu.ln,hu.cl,hu.rc,λ w hw=>by show uq _ _ (ia m.mem _) w; rw [IY]; first | exact hu.mem w hw | exact (hu.mem w hw).write | exact (hu.mem w hw).out⟩ hs;have hs:=(((hs.p1.drop.p1).drop).p1).drop;refine ⟨?_,hs.mut⟩;rw [Xi]
  ·refine aH (aC (λ kK=>?_) (λ kK=>?_))
   ·refine aA jG (aB (v:=.int .i64 ((q).t)) bL hs.p7.hb rfl (pop (Bf _ _) (aI (x:=(⟨14,(q).t,0,0,0⟩:dC)) hs.p6 eZ rfl rfl (λ vm hs=>aD eZ hs.At ?_))));have hs:=(eF.shut (room:=m.room) (t:={t with buf:=ml t.buf q.i}) qN hs.p5.p5.p4.p5).p3;have hs:=St.sj (H:=qc K m.room) (x:={t with buf:=ml t.buf q.i}) hs.p1 (by have:=(List.getElem?_eq_some_iff.1 ht).1; omega) wJ dD;have IY:ia m.mem (ej t.buf q.i)=m.mem:=by unfold ia; rw [if_neg gj,if_pos kK]
    have Xi:pP q.t (ej t.buf q.i)=⟨14,q.t,0,0,0⟩:=by unfold pP; rw [if_neg gj,if_pos kK]
    have hs:=(show St w F (cE p (jX a (mB m t q))::fW a.q a.ov a.fv (mB m t q).mem::_) _ from by unfold mB; rw [IY]; exact hs.p7.p7.p7.p7);have hs:=eO.shut (m:=mB m t q) ⟨hu.ln,hu.cl,hu.rc,λ w hw=>by show uq _ _ (ia m.mem _) w; rw [IY]; first | exact hu.mem w hw | exact (hu.mem w hw).write | exact (hu.mem w hw).out⟩ hs;have hs:=(((hs.p1.drop.p1).drop).p1).drop;refine ⟨?_,hs.mut⟩;rw [Xi]
   ·refine aE (aA jH (have hs:=hs.drew;aB sd hs.p8.hb rfl (aA kZ (aB (v:=.int .i64 (((ej t.buf q.i)).line)) bL hs.hb rfl (bG aeH hs.p9 (H':=λ _=>fW a.q a.ov a.fv (vD m.mem ((ej t.buf q.i)).line)) (Φ:=λ _ _=>True) (λ F2 eQ eA=>?_) ?_)))))
    ·exact (C129 a.q a.ov a.fv m.mem F2 _ _ eQ (λ w' hc=>hu.mem _ (hK w' (eA w' hc).aF)) lZ.mem tB).mono λ _ _ r=>r.mono λ _ _ h=>⟨trivial,h.2⟩
    rintro _ vn _ hs;refine aA jG (aB (v:=.int .i64 ((q).t)) bL hs.p8.hb rfl (aA kZ (aB (v:=.int .i64 (((ej t.buf q.i)).line)) bL hs.p1.hb rfl (pop (si _ _ _) (aI (x:=(⟨13,(q).t,((ej t.buf q.i)).line,0,0⟩:dC)) hs.p7 eZ rfl rfl (λ sm hs=>aD eZ hs.At ?_))))));have hs:=(eF.shut (room:=m.room) (t:={t with buf:=ml t.buf q.i}) qN hs.p6.p6.p5.p6).p4;have hs:=St.sj (H:=qc K m.room) (x:={t with buf:=ml t.buf q.i}) hs.p1 (by have:=(List.getElem?_eq_some_iff.1 ht).1; omega) wJ dD;have IY:ia m.mem (ej t.buf q.i)=vD m.mem (ej t.buf q.i).line:=by unfold ia; rw [if_neg gj,if_neg kK]
    have Xi:pP q.t (ej t.buf q.i)=⟨13,q.t,(ej t.buf q.i).line,0,0⟩:=by unfold pP; rw [if_neg gj,if_neg kK]
    have hs:=(show St w F (cE p (jX a (mB m t q))::fW a.q a.ov a.fv (mB m t q).mem::_) _ from by unfold mB; rw [IY]; exact hs.p7.p7.p4.p7);have hs:=eO.shut (m:=mB m t q) ⟨hu.ln,hu.cl,hu.rc,λ w hw=>by show uq _ _ (ia m.mem _) w; rw [IY]; first | exact hu.mem w hw | exact (hu.mem w hw).write | exact (hu.mem w hw).out⟩ hs;have hs:=(((hs.p1.drop.p1).drop).p1).drop;refine ⟨?_,hs.mut⟩;rw [Xi]
 ·refine ⟨?_,?_⟩
  ·refine aN hs uM (λ ays w6 hs=>?_);refine ⟨aG py (hs.p8.hb.cell rfl),?_⟩;refine ⟨aG bL (hs.p7.hb.cell rfl),?_⟩;refine ⟨PV hs.p11 zD iN dD,?_⟩;refine ⟨aG qW (hs.p1.hb.cell rfl),?_⟩;refine ⟨aG bL (hs.p7.hb.cell rfl),?_⟩;refine bG aeG hs.p2 (H':=λ _=>nK bp m.room (ml t.buf q.i)) (Φ:=λ v _=>v = .tuple #[Flat.val (ej t.buf q.i),.int .i64 (Al t.buf q.i)]) (λ F2 eQ eA=>?_) ?_
   ·exact C127 bp m.room t.buf q.i F2 _ eQ (by omega)
   rintro _ w7 rfl hs;refine bE rfl (bE rfl (aI (x:=(ej t.buf q.i)) hs.p1 kY rfl rfl (λ w8 hs=>?_)));intro fy;refine aA pA (aB (v:=.int .i64 (((ej t.buf q.i)).kind)) bL hs.hb rfl (aH (aC (λ gj=>?_) (λ gj=>?_))))
   ·refine aE (aA jH (have hs:=hs.drew;aB sd hs.p8.hb rfl (aA nU (aB (v:=.int .i64 (((ej t.buf q.i)).cell)) bL hs.hb rfl (aA mX (aB (v:=.int .i64 (((ej t.buf q.i)).n)) bL hs.hb rfl (bG T3 hs.p9 (H':=λ _=>fW a.q a.ov a.fv (iH m.mem ((ej t.buf q.i)).cell ((ej t.buf q.i)).n)) (Φ:=λ _ _=>True) (λ F2 eQ eA=>?_) ?_)))))))
    ·exact (C128 a.q a.ov a.fv m.mem F2 _ _ _ eQ (λ w' hc=>hu.mem _ (hK w' (eA w' hc).aF)) lZ.mem tB).mono λ _ _ r=>r.mono λ _ _ h=>⟨trivial,h.2⟩
    rintro _ pS _ hs;refine aA jG (aB (v:=.int .i64 ((q).t)) bL hs.p8.hb rfl (aA nU (aB (v:=.int .i64 (((ej t.buf q.i)).cell)) bL hs.p1.hb rfl (aA mX (aB (v:=.int .i64 (((ej t.buf q.i)).n)) bL hs.p1.hb rfl (pop (xZ _ _ _ _) (aI (x:=(⟨12,(q).t,((ej t.buf q.i)).cell,((ej t.buf q.i)).n,0⟩:dC)) hs.p7 eZ rfl rfl (λ sU hs=>aD eZ hs.At ?_))))))));have hs:=(eF.shut (room:=m.room) (t:={t with buf:=ml t.buf q.i}) qN hs.p6.p6.p5.p6).p4;have hs:=St.sj (H:=qc K m.room) (x:={t with buf:=ml t.buf q.i}) hs.p1 (by have:=(List.getElem?_eq_some_iff.1 ht).1; omega) wJ dD
    have IY:ia m.mem (ej t.buf q.i)=iH m.mem (ej t.buf q.i).cell (ej t.buf q.i).n:=by unfold ia; rw [if_pos gj]
    have Xi:pP q.t (ej t.buf q.i)=⟨12,q.t,(ej t.buf q.i).cell,(ej t.buf q.i).n,0⟩:=by unfold pP; rw [if_pos gj]
    have hs:=(show St w F (cE p (jX a (mB m t q))::fW a.q a.ov a.fv (mB m t q).mem::_) _ from by unfold mB; rw [IY]; exact hs.p7.p7.p4.p7);have hs:=eO.shut (m:=mB m t q) ⟨hu.ln,hu.cl,hu.rc,λ w hw=>by show uq _ _ (ia m.mem _) w; rw [IY]; first | exact hu.mem w hw | exact (hu.mem w hw).write | exact (hu.mem w hw).out⟩ hs;have hs:=(((hs.p1.drop.p1).drop).p1).drop;refine ⟨?_,hs.mut⟩;rw [Xi]
   ·refine aH (aC (λ kK=>?_) (λ kK=>?_))
    ·refine aA jG (aB (v:=.int .i64 ((q).t)) bL hs.p7.hb rfl (pop (Bf _ _) (aI (x:=(⟨14,(q).t,0,0,0⟩:dC)) hs.p6 eZ rfl rfl (λ vm hs=>aD eZ hs.At ?_))));have hs:=(eF.shut (room:=m.room) (t:={t with buf:=ml t.buf q.i}) qN hs.p5.p5.p4.p5).p3;have hs:=St.sj (H:=qc K m.room) (x:={t with buf:=ml t.buf q.i}) hs.p1 (by have:=(List.getElem?_eq_some_iff.1 ht).1; omega) wJ dD;have IY:ia m.mem (ej t.buf q.i)=m.mem:=by unfold ia; rw [if_neg gj,if_pos kK]
     have Xi:pP q.t (ej t.buf q.i)=⟨14,q.t,0,0,0⟩:=by unfold pP; rw [if_neg gj,if_pos kK]
     have hs:=(show St w F (cE p (jX a (mB m t q))::fW a.q a.ov a.fv (mB m t q).mem::_) _ from by unfold mB; rw [IY]; exact hs.p7.p7.p7.p7);have hs:=eO.shut (m:=mB m t q) ⟨hu.ln,hu.cl,hu.rc,λ w hw=>by show uq _ _ (ia m.mem _) w; rw [IY]; first | exact hu.mem w hw | exact (hu.mem w hw).write | exact (hu.mem w hw).out⟩ hs;have hs:=(((hs.p1.drop.p1).drop).p1).drop;refine ⟨?_,hs.mut⟩;rw [Xi]
    ·refine aE (aA jH (have hs:=hs.drew;aB sd hs.p8.hb rfl (aA kZ (aB (v:=.int .i64 (((ej t.buf q.i)).line)) bL hs.hb rfl (bG aeH hs.p9 (H':=λ _=>fW a.q a.ov a.fv (vD m.mem ((ej t.buf q.i)).line)) (Φ:=λ _ _=>True) (λ F2 eQ eA=>?_) ?_)))))
     ·exact (C129 a.q a.ov a.fv m.mem F2 _ _ eQ (λ w' hc=>hu.mem _ (hK w' (eA w' hc).aF)) lZ.mem tB).mono λ _ _ r=>r.mono λ _ _ h=>⟨trivial,h.2⟩
     rintro _ vn _ hs;refine aA jG (aB (v:=.int .i64 ((q).t)) bL hs.p8.hb rfl (aA kZ (aB (v:=.int .i64 (((ej t.buf q.i)).line)) bL hs.p1.hb rfl (pop (si _ _ _) (aI (x:=(⟨13,(q).t,((ej t.buf q.i)).line,0,0⟩:dC)) hs.p7 eZ rfl rfl (λ sm hs=>aD eZ hs.At ?_))))));have hs:=(eF.shut (room:=m.room) (t:={t with buf:=ml t.buf q.i}) qN hs.p6.p6.p5.p6).p4;have hs:=St.sj (H:=qc K m.room) (x:={t with buf:=ml t.buf q.i}) hs.p1 (by have:=(List.getElem?_eq_some_iff.1 ht).1; omega) wJ dD;have IY:ia m.mem (ej t.buf q.i)=vD m.mem (ej t.buf q.i).line:=by unfold ia; rw [if_neg gj,if_neg kK]
     have Xi:pP q.t (ej t.buf q.i)=⟨13,q.t,(ej t.buf q.i).line,0,0⟩:=by unfold pP; rw [if_neg gj,if_neg kK]
     have hs:=(show St w F (cE p (jX a (mB m t q))::fW a.q a.ov a.fv (mB m t q).mem::_) _ from by unfold mB; rw [IY]; exact hs.p7.p7.p4.p7);have hs:=eO.shut (m:=mB m t q) ⟨hu.ln,hu.cl,hu.rc,λ w hw=>by show uq _ _ (ia m.mem _) w; rw [IY]; first | exact hu.mem w hw | exact (hu.mem w hw).write | exact (hu.mem w hw).out⟩ hs;have hs:=(((hs.p1.drop.p1).drop).p1).drop;refine ⟨?_,hs.mut⟩;rw [Xi]
  ·trivial
set_option maxHeartbeats 1000000 in
theorem C63 (K:World→Prop) (p:Nat) (m:gE) (N:Nat) (i:Int) (t:fK) (m2:gE) (ev:dC) (F:Nat→Prop) (w:World) (hF:(eO K p m).p w F) (hK:∀ w',ix F w w'→K w') (lZ:qx m) (tB:MB m.mem 1000000) (h0:0≤i) (ht:m.l[i.toNat]? = some t) (sG:mI N m i=some (m2,ev)):CR 63 [(.pointer (some ⟨p,0,none⟩)),.int .i64 i] w (λ v w'=>v=Flat.val ev∧qn F (eO K p m2) w w'):=by
 have hs:=St.begin hF;obtain ⟨a,hu,hs⟩:=eO.open hs;have wJ:=hs.p4.lj;have Cv:=List.mem_of_getElem? ht;have oF:=lZ.th t Cv;have mD:=(List.getElem?_eq_some_iff.1 ht).1;refine ahA _ _ _ _ ?_;unfold S63;refine aN hs lD (λ Cr w1 hs=>aE (aA jg (aB py hs.p1.hb rfl ?_)));obtain ⟨pH,jU⟩:=gx (a.ps) (i:=(i).toNat) (by omega);refine dR hs.p4 ql (by omega) (by omega) (λ _ rh=>ga hs.p4 zD rh jU ?_);have hs:=W6 hs.p5 jU ht;obtain ⟨bp,gl,rg,cn,qN,hs⟩:=eF.open hs;refine aE (aA tM (aB bL hs.hb rfl (cQ (aC (λ gu=>?_) (λ gu=>?_)))))
 ·refine aE (aA tM (aB bL hs.hb rfl (aE (aA nT (aV hs.p6 bL (eI rfl) (rfl) (λ w2 hs=>aE (aA Dy (aV hs bL (eI rfl) (rfl) (λ w3 hs=>aE (aA tM (aB bL hs.p1.hb rfl (pop (si _ _ _) ?_))))))))))));refine aI (x:=(⟨16,i,t.fault,0,0⟩:dC)) hs.p6 eZ rfl rfl (λ w4 hs=>aD eZ hs.At ?_);have hs:=St.sj (H:=qc K m.room) (x:=t) (((eF.shut (room:=m.room) (t:=t) qN hs.p5.p5.p5.p5).p3).p1) (by have:=(List.getElem?_eq_some_iff.1 ht).1; omega) wJ jU;rw [uP ht] at hs;have hs:=eO.shut (m:={m with fault:=t.fault,mO:=i}) ⟨hu.ln,hu.cl,hu.rc,hu.mem⟩ hs.p5.p5.p5.p5
  have hs:=(hs.p1).drop;obtain ⟨rfl,rfl⟩:=AA sG ht gu;exact ⟨rfl,hs.mut⟩
 ·have hs:=eF.shut (room:=m.room) (t:=t) qN hs.p3.p3.p3.p3;obtain ⟨x,vu⟩:=AB sG ht gu;refine eD Y0 (C65 K pH.b m.room t _ (hs).has (hK _ hs.aF) oF) ?_;rintro v41 w5 hh;obtain ⟨x2,xv,ayt,hxv,rfl,he⟩:=hh.resolve_left (λ h=>by rw [vu] at h; cases h.1);obtain rfl:x=x2:=Option.some.inj (vu.symm.trans ayt);have hs:=hs.ext he;have hxm:=qM vu;obtain ⟨ge,gf,rfl,_,_⟩:=hxv _ (hK _ hs.aF);have hkd:=lZ.st t Cv x vu (by omega);refine bE rfl (bE rfl (aN hs mA (λ Od w6 hs=>have hs:=hs.enc (cs':=Flat.enc (⟨0,0,0,⟨none,0,0⟩,⟨none,0,0⟩,0⟩:bU)) rfl;aI (x:=(⟨x.kind,x.a,x.b,ge,gf,x.to⟩:bU)) hs lL rfl rfl (λ w7 hs=>wF hs (λ b_x44 w8 hs=>g9 hs Tryz.underlying211 oN (by decide) (λ w9 hs=>g9 hs Tryz.underlying211 oN (by decide) (λ pS hs=>g9 hs Tryz.underlying211 oN (by decide) (λ sU hs=>g9 hs Tryz.underlying211 oN (by decide) (λ vm hs=>g9 hs Tryz.underlying211 oN (by decide) (λ vn hs=>g9 hs Tryz.underlying211 oN (by decide) (λ sm hs=>g9 hs Tryz.underlying211 oN (by decide) (λ v7 hs=>g9 hs Tryz.underlying211 oN (by decide) (λ yZ hs=>?_)))))))))))))
  refine g9 hs Tryz.underlying211 oN (by decide) (λ Cp hs=>aA jh (aB (v:=.int .i64 x.kind) bL hs.p1.hb rfl ?_));have hrl:=oF.rg;have ME:=lZ.lk;obtain ⟨g,arj,vj,l4⟩:=Xg K p m i.toNat pH t i x ge gf hkd oF.bl lZ.mem tB (λ h=>by have:=lZ.aq7 t Cv x hxm.1 h; omega) (λ h=>by have:=lZ.lkb t Cv x hxm.1 h; omega) (lZ.lnb t Cv x hxm.1);refine ⟨_,o8 hs.Am Tryz.underlying211 oN abw,?_⟩;rw [Xh arj];refine aD lL hs.p1.At (have hs:=kC.shut (m:=m) (⟨hu,jU,wJ,by omega⟩) hs.p3.p8.p8.p8.p8;have hs:=St.join hs.p3;WW (first:=[]) (cap:=[]) vj hs (H':=λ _=>sep (eF K pH.b (dX m t i x).1.room (dX m t i x).2.1) (kC K p (dX m t i x).1 i.toNat pH)) (Φ:=λ v _=>v=Flat.val (dX m t i x).2.2) (λ F2 eQ eA=>?_) ?_)
  ·exact l4 F2 _ eQ (λ w' hc=>hK w' (eA w' hc).aF)
  rintro _ Iv rfl hs;refine aN hs lD (λ b_e9 Jy hs=>aI (x:=(dX m t i x).2.2) hs eZ rfl rfl (λ KG hs=>aA abm (aV hs bL (eI rfl) (rfl) (λ MH hs=>?_))));have hs:=hs.enc (cs':=Flat.enc ({ (dX m t i x).2.2 with t:=i}:dC)) rfl;refine ⟨_,?_,λ _ h=>h⟩;refine aE ?_;have hs:=hs.p1.split.p1;obtain ⟨a2,hx,hs⟩:=kC.open hs;refine aA nT (aB bL hs.hb rfl (aH (aC (λ kx=>?_) (λ kx=>?_))))
  ·have hs:=kC.shut (m:=(dX m t i x).1) (hx) hs.p4.p4.p4.p4.p4;obtain ⟨t2,hg,rfl,rfl⟩:=AD sG ht gu vu kx;have sW:(dX m t i x).2.1.at_=t.at_:=CV;have Qq:=oF.code.len;have ayo:=oF.Tm;have hs:=hs.p1;obtain ⟨bp,gl,rg,cn,qN,hs⟩:=eF.open hs;refine aE (aA kj (aB bL hs.hb rfl (aO (by omega) (aE (aA kj (aV hs bL (eI rfl) (rfl) (λ Qv hs=>?_)))))));have hs:=eF.shut (room:=(dX m t i x).1.room) (t:=(⟨(dX m t i x).2.1.code,((dX m t i x).2.1.at_+1),(dX m t i x).2.1.aK,(dX m t i x).2.1.counts,(dX m t i x).2.1.fault,(dX m t i x).2.1.e,(dX m t i x).2.1.f,(dX m t i x).2.1.buf⟩:fK)) qN hs.p3.p3.p3.p3
   have tn:=QR (m:=m) (t:=t) (i:=i) (x:=x) oF lZ.rm.2;have Xj:G9 { (dX m t i x).2.1 with at_:=(dX m t i x).2.1.at_+1}:=⟨tn.code,tn.rg,tn.cn,by dsimp only; omega,tn.bl⟩;refine bG aeC hs (H':=λ _=>eF K pH.b (dX m t i x).1.room t2) (Φ:=λ _ _=>True) (λ F2 eQ eA=>?_) ?_
   ·exact (C122 K pH.b (dX m t i x).1.room { (dX m t i x).2.1 with at_:=(dX m t i x).2.1.at_+1} t2 N F2 _ eQ (λ w' hc=>hK w' (eA w' hc).aF) Xj hg).mono λ _ _ r=>r.mono λ _ _ h=>⟨trivial,h.2⟩
   rintro _ To _ hs;intro fy;refine aD eZ hs.p2.At (aI (x:=({ (dX m t i x).2.2 with t:=i}:dC)) hs.p5 eZ rfl rfl (λ Tp hs=>aD eZ hs.At ?_));have hs:=((((((((LO hs.p2.p2).p1).drop).p1).drop).p1).drop).p1).drop;exact ⟨rfl,hs.mut⟩
  ·intro fy;refine aD eZ hs.p6.At (aI (x:=({ (dX m t i x).2.2 with t:=i}:dC)) hs.p9 eZ rfl rfl (λ Tp hs=>aD eZ hs.At ?_));have hs:=((((LO ((kC.shut (m:=(dX m t i x).1) (hx) hs.p5.p5.p5.p5.p5).p2)).p1).drop).p1).drop;have hs:=((hs.p1.drop).p1).drop;obtain ⟨rfl,rfl⟩:=AE sG ht gu vu kx;exact ⟨rfl,hs.mut⟩
end Go.Proofs.YtnjcingfdhjfkaaGreat
namespace Go.Fw
def CW (F:Nat→Prop) (w0 w':World):Prop:=∀ b,F b→w'.heap[b]? = w0.heap[b]?
section
variable {α σ:Type} [Flat σ] [D:bZ α σ] {w w0:World} {A F:Nat→Prop} {L:List HP} {v:Value} {xs:List α} {ts us:List σ}
theorem St.ark {Φ:World→Prop} (hs:St w0 A (Fw.eU Φ::L) w):∃ F,St w0 A (Fw.eU (CW F w)::L) w∧∀ w',CW F w w'→Φ w':=by
 obtain ⟨U,F,U',g1,g2,g3,g4,g5⟩:=hs.sP
 exact ⟨F,⟨hs.aF,U,F,U',⟨λ w' h=>h,g1.2⟩,g2,g3,g4,g5⟩,λ w' h=>g1.1 w' h⟩
theorem CW.refl (F:Nat→Prop) (w:World):CW F w w:=λ _ _=>rfl
theorem LR (inj:∀ x y:σ,Flat.enc x=Flat.enc y→x=y):∀ {ts us:List σ},ts.length=us.length→flat ts=flat us→ts=us
 | [],[],_,_=>rfl
 | t::ts,u::us,hl,h=>by
  rw [ja,ja] at h
  have:=List.append_inj h (by rw [Flat.len,Flat.len])
  rw [inj _ _ this.1,LR inj (by simpa using hl) this.2]
 | [],_::_,hl,_=>by simp at hl
 | _::_,[],hl,_=>by simp at hl
theorem eJ.func {S S':Nat→Prop} (inj:∀ x y:σ,Flat.enc x=Flat.enc y→x=y) (h:eJ S w v ts) (h':eJ S' w v us):ts=us:=by
 obtain ⟨a,cap,rfl,hc,h3⟩:=h
 obtain ⟨a',J9,hv,hc',h3'⟩:=h'
 simp only [Value.slice.injEq] at hv
 obtain ⟨rfl,hl,rfl⟩:=hv
 refine LR inj hl (List.ext_getElem? λ j=>?_)
 have Bd:(flat ts).length=(flat us).length:=by rw [cR,cR,hl]
 by_cases hj:j<(flat ts).length
 ·have hj':j<(flat us).length:=by omega
  rcases h3 with ⟨rfl,_⟩ | ⟨b,o,rfl,_,h5⟩
  ·simp [ki] at hj
  ·rcases h3' with ⟨rfl,_⟩ | ⟨b',o',ha,_,h5'⟩
   ·simp [ki] at hj'
   ·simp only [Option.some.injEq,Addr.mk.injEq,and_true] at ha
    obtain ⟨rfl,rfl⟩:=ha
    have c1:=h5 j _ (List.getElem?_eq_getElem hj)
    have c2:=h5' j _ (List.getElem?_eq_getElem hj')
    unfold Cell at c1 c2
    rw [List.getElem?_eq_getElem hj,List.getElem?_eq_getElem hj']
    exact c1.symm.trans c2
 ·rw [List.getElem?_eq_none (by omega),List.getElem?_eq_none (by omega)]
theorem CW.rd (h:∀ w',CW F w w'→DL w' v xs) (hr:eJ (λ _=>True) w v ts) (hn:ts.length=xs.length):∀ w',CW F w w'→eJ (λ _=>True) w' v ts:=by
 intro w' hw
 have hr0:=hr
 obtain ⟨a,cap,rfl,hc,h3⟩:=hr
 rcases h3 with ⟨h3,h4⟩ | ⟨b,o,rfl,h4,h5⟩
 ·exact ⟨a,cap,rfl,hc,.inl ⟨h3,h4⟩⟩
 ·cases ts with
  | nil=>exact ⟨_,cap,rfl,hc,.inr ⟨b,o,rfl,λ h=>absurd rfl h,λ j c hj=>by simp [ki] at hj⟩⟩
  | cons t ts=>
   by_cases hF:F b
   ·exact ⟨_,cap,rfl,hc,.inr ⟨b,o,rfl,λ _=>trivial,λ j c hj=>(h5 j c hj).of_eq (hw b hF)⟩⟩
   ·exfalso
    have h6:DL (ChangeMaps.setBlock w b (.map #[] 0)) (.slice (some ⟨b,o,none⟩) (t::ts).length cap) xs:=h _ λ b' hb'=>by
     simp only [ChangeMaps.setBlock]; exact Array.getElem?_setIfInBounds_ne (λ e=>hF (by rw [e]; exact hb'))
    obtain ⟨us,⟨a',J9,hv,_,h7⟩,hul,_⟩:=h6
    simp only [Value.slice.injEq] at hv
    obtain ⟨rfl,hl,rfl⟩:=hv
    have zx:0<(flat us).length:=by rw [cR,← hl]; exact Nat.mul_pos (by simp) (Flat.pos (α:=σ))
    rcases h7 with ⟨rfl,_⟩ | ⟨b',o',ha,_,h8⟩
    ·simp at hl
    ·simp only [Option.some.injEq,Addr.mk.injEq,and_true] at ha
     obtain ⟨rfl,rfl⟩:=ha
     have zw:=h8 0 _ (List.getElem?_eq_getElem zx)
     have hb:=(h5 0 _ (List.getElem?_eq_getElem (by rw [cR]; exact Nat.mul_pos (by simp) (Flat.pos (α:=σ))))).lt
     unfold Cell World.cell? at zw
     dsimp only at zw
     rw [mq _ hb] at zw
     simp at zw
theorem CW.fix (inj:∀ x y:σ,Flat.enc x=Flat.enc y→x=y) (h:∀ w',CW F w w'→DL w' v xs):∃ ts:List σ,ts.length=xs.length∧∀ w',CW F w w'→eJ (λ _=>True) w' v ts∧jS ts xs w':=by
 obtain ⟨ts,hr,hd⟩:=(h w (CW.refl F w)).open
 refine ⟨ts,hd.1,λ w' hw=>?_⟩
 have h1:=CW.rd h hr hd.1 w' hw
 obtain ⟨us,Yq,hd'⟩:=(h w' hw).open
 rw [eJ.func inj h1 Yq] at *
 exact ⟨Yq,hd'⟩
end
section
variable {P:Program} {T:Nat} {cx cy:Bool} {a b:Int} {K:Value→Prop}
theorem Xk (h:0≤a - b∧a - b≤255) (k:K (.int .u8 (a - b))):cW P (iI .sub T cx cy (.int .u8 a) (.int .u8 b)) K:=
 ⟨_,(show pr P (iI .sub T cx cy (.int .u8 a) (.int .u8 b))=some (.int .u8 (a - b)) from by
  show some (Value.int .u8 (IntKind.u8.wrap (a - b)))=_
  have:IntKind.u8.wrap (a - b)=a - b:=by
   unfold IntKind.wrap; simp [IntKind.bits,IntKind.signed]; omega
  rw [this]),k⟩
theorem Sz {src dst:TypeId} (h1:P.underlying src=some (.int .u8)) (h2:P.underlying dst=some (.int .i64)) (h:0≤a∧a≤255) (k:K (.int .i64 a)):cW P (convert src dst (.int .u8 a)) K:=by
 refine ⟨_,?_,k⟩
 unfold convert
 simp only [cM,cL h1,cL h2,Option.bind_some]
 show some (Value.int .i64 (IntKind.i64.wrap a))=_
 rw [IntWalk.i64_in _ (by omega)]
end
end Go.Fw
namespace Go.Proofs.YtnjcingfdhjfkaaGreat
open Go.Fw
def qd (c:fm):fK:=⟨c,0,List.replicate c.aK.toNat 0,List.replicate c.counts.toNat 0,0,0,0,[]⟩
def rK (N:Nat) (cs:List fm) (ts:List fK):Prop:=ts.length=cs.length∧∀ (j:Nat) (c:fm) (t:fK),cs[j]? = some c→ts[j]? = some t→sN N (qd c)=some t
theorem I9 {c:fm} (h:BK c):G9 (qd c):=⟨h,by have:=h.rb; simp [qd]; omega,by have:=h.cb; simp [qd]; omega,by simp [qd],by simp [qd]⟩
def arl (K:World→Prop) (Ot:List cK) (cs:List fm):Prop:=Ot.length=cs.length∧∀ (j:Nat) (cv:cK) (c:fm),Ot[j]? = some cv→cs[j]? = some c→∃ gl:SV,cv=⟨c.aK,c.counts,gl⟩∧E3 K (Flat.val gl) c.l
theorem Ou (x y:cK) (h:Flat.enc x=Flat.enc y):x=y:=by
 obtain ⟨a,b,⟨c,d,e⟩⟩:=x; obtain ⟨a',b',⟨c',d',e'⟩⟩:=y; simp [Flat.enc] at h; simp [h]
theorem LS (x y:bU) (h:Flat.enc x=Flat.enc y):x=y:=by
 obtain ⟨a,b,c,⟨d,e,f⟩,⟨g,i,j⟩,k⟩:=x; obtain ⟨a',b',c',⟨d',e',f'⟩,⟨g',i',j'⟩,k'⟩:=y; simp [Flat.enc] at h; simp [h]
theorem LU {F:Nat→Prop} {w1:World} {gl:Value} {l:List aW} (h:∀ w',CW F w1 w'→DL w' gl l):E3 (CW F w1) gl l:=by
 obtain ⟨ts,_,h2⟩:=CW.fix LS h; exact ⟨ts,h2⟩
def mC (u:ib) (room:Int):gE:=⟨u,room,WX u.lines u.stays u.cT,[],[],0,0,0⟩
def lH (m:gE) (ts:List fK):gE:={m with locks:=List.replicate m.u.locks.toNat (-1),l:=ts}
theorem Xl {w w0:World} {A:Nat→Prop} {L:List HP} {p q:Nat} {u:ib} {room:Int} {sh:dJ} {ov fv:SV}
  (hs:St w0 A (cE p (jX ⟨sh.lines,sh.cT,sh.threads,sh.recover.l,sh.cC,q,Flat.val ov,Flat.val fv,.slice none 0 0,.slice none 0 0,[]⟩ (mC u room)) ::
   fW q (Flat.val ov) (Flat.val fv) (WX u.lines u.stays u.cT)::bK (Flat.val ov) (u.lines.take u.stays.toNat)::bK (Flat.val fv) u.cT::eU (λ w=>bZ.dr w sh u)::L) w) :
  ∃ (K:World→Prop) (Ot:List cK),St w0 A (eO K p (mC u room)::eU K::L) w∧(∀ w,K w→eJ (λ _=>True) w (Flat.val sh.threads) Ot)∧arl K Ot u.threads:=by
 have h1:=hs.p2.freeze
 have h2:=(h1.p3.freeze).p1.fM
 have h3:=(h2.p3.p1.fM)
 obtain ⟨F,h4,h5⟩:=h3.ark
 have hd:∀ w',CW F w w'→bZ.dr w' sh u:=λ w' h=>by have:=h5 w' h; first | exact this.1 | exact this.2 | exact this.1.1 | exact this.2.2
 have hov:∀ w',CW F w w'→eJ (λ _=>True) w' (Flat.val ov) (u.lines.take u.stays.toNat):=λ w' h=>by have:=h5 w' h; first | exact this.1.1 | exact this.1.2 | exact this.2.1 | exact this.2.2
 have hfv:∀ w',CW F w w'→eJ (λ _=>True) w' (Flat.val fv) u.cT:=λ w' h=>by have:=h5 w' h; first | exact this.1.1 | exact this.1.2 | exact this.2.1 | exact this.2.2
 have hth:∀ w',CW F w w'→DL w' (Flat.val sh.threads) u.threads:=λ w' h=>by obtain ⟨_,_,_,_,_,e,q1,q2,q3,q4,q5⟩:=hd w' h; rw [e]; exact q3
 obtain ⟨Ot,Qq,Sk⟩:=CW.fix Ou hth
 refine ⟨CW F w,Ot,?_,λ w' h=>(Sk w' h).1,Qq,λ j cv c h1 h2=>?_⟩
 ·have h6:St w0 A (iy (qc (CW F w) room) [] []::_) w:=h4.new (Ext.refl w) (F:=bD) (λ _ h=>h) λ _ h=>h.elim
  have h7:=((h6.fU (α:=Ptr)).fU (α:=Int))
  refine eO.shut (a:=⟨sh.lines,sh.cT,sh.threads,sh.recover.l,sh.cC,q,Flat.val ov,Flat.val fv,.slice none 0 0,.slice none 0 0,[]⟩) (m:=mC u room) ⟨λ w' h=>?_,λ w' h=>?_,LU λ w' h=>?_,λ w' h=>⟨hov w' h,hfv w' h⟩⟩ h7.p5.p5
  ·obtain ⟨_,_,_,_,_,e,q1,q2,q3,q4,q5⟩:=hd w' h; rw [e]; exact DL.flat q1
  ·obtain ⟨_,_,_,_,_,e,q1,q2,q3,q4,q5⟩:=hd w' h; rw [e]; exact q5
  ·obtain ⟨_,_,_,_,_,e,q1,q2,q3,q4,q5⟩:=hd w' h; rw [e]
   obtain ⟨g,e2,q6⟩:=q4; rw [e2]; exact q6
 ·have hh:∀ w',CW F w w'→bZ.dr w' cv c:=λ w' h=>(Sk w' h).2.2 j cv c h1 h2
  obtain ⟨gl,e,_⟩:=hh w (CW.refl F w)
  subst e
  exact ⟨gl,rfl,LU λ w' h=>by obtain ⟨gl',e,h6⟩:=hh w' h; cases e; exact h6⟩
structure QS (N:Nat) (u:ib) (ni:List fK):Prop where
 b:rK N u.threads ni
 co:∀ c∈u.threads,BK c
 len:u.lines.length=u.cT.length
 l20:u.lines.length≤20
 st:0≤u.stays∧u.stays≤u.lines.length
 ln:∀ (k:Nat) (n:Int),(k:Int)<u.stays→u.lines[k]? = some n→(n=lu u.lines k∨(0<k∧n=lu u.lines k - 1))∧-10≤n∧n≤100
 lk:0≤u.locks∧u.locks≤1000
set_option maxHeartbeats 1000000 in
theorem C55 (K:World→Prop) (p:Nat) (m:gE) (N:Nat) (LV:List fm) (ni:List fK) (lv:Value) (Ot:List cK) (F:Nat→Prop) (w:World) (hF:(eO K p m).p w F) (hK:∀ w',ix F w w'→K w') (hrm:1≤m.room∧m.room≤16) (ME:0≤m.u.locks∧m.u.locks≤1000) (hl:∀ w',ix F w w'→eJ (λ _=>True) w' lv Ot) (Sk:arl K Ot LV) (ayv:∀ c∈LV,BK c) (hb:rK N LV ni) (hn:LV.length≤1000):CR 55 [(.pointer (some ⟨p,0,none⟩)),lv] w (λ v w'=>v = .tuple #[]∧qn F (eO K p (lH m ni)) w w'):=by
 have hs:=St.begin hF;obtain ⟨a,hu,hs⟩:=eO.open hs;have wJ:=hs.p4.lj;have hcvl:=Sk.1;refine ahs _ _ _ _ ?_;unfold S55;refine aE (aA jg (aV hs py (eI rfl) (rfl) (λ w1 hs=>aE (aA nS (aV hs eu (eI rfl) (rfl) (λ w2 hs=>aE (aA tL (aA CJ (aB bL hs.hb rfl ?_)))))))));have hs:=(((hs.p3.drop.p3.drop.p2.drop.fU (α:=Int)).p2).p1).p2;refine ⟨λ mm x w'=>∃ (k:Nat) (HG:Value),x = .int .i64 (k:Int)∧mm=m.u.locks.toNat - k∧k≤m.u.locks.toNat∧St w F [cE p (jX {a with lk:=HG,ll:=.slice none 0 0} m),bK HG (List.replicate k (-1:Int)),fW a.q a.ov a.fv m.mem] w',⟨_,0,_,rfl,rfl,Nat.zero_le _,hs⟩,?_⟩
 rintro mm _ w3 ⟨k,HG,rfl,rfl,Th,hs⟩ fy;refine aR (aC (λ gu=>?_) (λ gu=>?_))
 ·refine aE (aA nS (aB eu hs.hb rfl (bW (([-1]:List Int)) hs dY rfl rfl (eI rfl) (λ Qe w4 hs=>?_))));have En:=(hs).fB;refine cN hs.p2 dY En (by rw [List.length_replicate,List.length_singleton]; omega) (by decide) (λ arn w5 hs=>have hs:=hs.p1.drop;aE (aA nS (aV hs.p1 eu (eI rfl) ((hs).fB.one) (λ w6 hs=>aO (by omega) ?_))));have hs:=hs.p2.p2.p2;exact ⟨_,by omega,k+1,arn,rfl,rfl,by omega,by rw [List.replicate_succ']; exact hs⟩
 ·refine aJ Be (hl _ hs.aF) ?_;have hs:=hs.p1;rw [show k=m.u.locks.toNat from by omega] at hs;have hs:=((((((hs.KD (H:=qc K m.room)).fU (α:=Ptr)).p4).p3).p3).p3).p4;refine ⟨λ mm x w'=>∃ (j:Nat) (Xm:Value) (ps:List Ptr),x = .int .i64 (j:Int)∧mm=Ot.length - j∧j≤Ot.length∧St w F [cE p (jX {a with lk:=HG,ll:=Xm} m),bK Xm ps,iy (qc K m.room) ps (ni.take j),bK HG (List.replicate m.u.locks.toNat (-1:Int)),fW a.q a.ov a.fv m.mem] w',⟨_,0,_,_,rfl,rfl,Nat.zero_le _,hs⟩,?_⟩;rintro mm _ w7 ⟨j,Xm,ps,rfl,rfl,hj1,hs⟩ jB;refine aR (aC (λ jx=>?_) (λ jx=>?_))
  ·refine ⟨_,?_,λ _ h=>h⟩;obtain ⟨af4,ES⟩:=gx (Ot) (i:=((j:Int)).toNat) (by omega);refine aQ Be (hl _ hs.aF) (by omega) ES (λ _ ua=>?_);obtain ⟨c,hc⟩:∃ c,LV[j]? = some c:=⟨_,List.getElem?_eq_getElem (by have:=Sk.1; omega)⟩;obtain ⟨t1,ht1⟩:∃ t,ni[j]? = some t:=⟨_,List.getElem?_eq_getElem (by have:=Sk.1; have:=hb.1; omega)⟩;have hg:=hb.2 j c t1 hc ht1;obtain ⟨gl,HY,aro⟩:=Sk.2 j _ _ ES hc;subst HY;have hco:=ayv c (List.mem_of_getElem? hc);have YF:=hco.rb;have hcb:=hco.cb;refine aD pW (ua) (aN hs H9 (λ ajB w8 hs=>have hs:=hs.enc (cs':=Flat.enc (⟨0,0,⟨none,0,0⟩⟩:cK)) rfl;aI (x:=(⟨c.aK,c.counts,gl⟩:cK)) hs pW rfl rfl (λ w9 hs=>aE (aA Ue (aB bL hs.p1.hb rfl (eD amR (C52 m.room _) ?_))))))
   rintro v43 pS hh;obtain ⟨_,_,b52,rfl,bY⟩:=hh.resolve_left (λ h=>by omega);have hs:=hs.made bY;refine bE rfl (bE rfl ?_);refine ⟨λ t8 w'=>∃ tb,t8 = .pointer (some ⟨tb,0,none⟩)∧St w F [eF K tb m.room (qd c),cE ajB (Flat.enc (⟨c.aK,c.counts,gl⟩:cK)),cE p (jX {a with lk:=HG,ll:=Xm} m),bK Xm ps,iy (qc K m.room) ps (ni.take j),bK HG (List.replicate m.u.locks.toNat (-1:Int)),fW a.q a.ov a.fv m.mem] w',?_,?_⟩
   ·have hs:=hs.drew;refine aD pW hs.p1.At (aA xa (aB (v:=.int .i64 c.aK) bL hs.p1.hb rfl (aA CI (aB (v:=.int .i64 c.counts) bL hs.p1.hb rfl ?_))));refine ⟨?_,?_⟩
    ·refine vO (0:Int) hs dY BY (by omega) (by omega) (by decide) (λ VB sU hs=>?_);refine ⟨fL pW hs.p2.At,?_⟩;refine ⟨aG bL (hs.p2.hb.cell rfl),?_⟩;refine vO (0:Int) hs dY BY (by omega) (by omega) (by decide) (λ s_x53 vm hs=>?_);refine ⟨fL pW hs.p3.At,?_⟩;refine ⟨aG bL (hs.p3.hb.cell rfl),?_⟩;obtain ⟨ayw,rfl⟩:=(hs.p1).fR;obtain ⟨Ov,rfl⟩:=(hs).fR;refine pop (vV _ _ _ _ _ _ _ _ _ _ _ _) (l5 hs (λ b_x55 vn hs=>?_));have hs:=hs.p9.p9.p9.p9.p9.p9.p7.p8.p9.p9;exact ⟨_,rfl,eF.shut (t:=qd c) aro hs⟩
    ·refine ⟨?_,?_⟩
     ·refine vO (0:Int) hs dY BY (by omega) (by omega) (by decide) (λ atC sm hs=>?_);refine ⟨fL pW hs.p2.At,?_⟩;refine ⟨aG bL (hs.p2.hb.cell rfl),?_⟩;refine vO (0:Int) hs dY BY (by omega) (by omega) (by decide) (λ atD v7 hs=>?_);refine ⟨fL pW hs.p3.At,?_⟩;refine ⟨aG bL (hs.p3.hb.cell rfl),?_⟩;obtain ⟨arp,rfl⟩:=(hs).fR;obtain ⟨arq,rfl⟩:=(hs.p1).fR;refine pop (vV _ _ _ _ _ _ _ _ _ _ _ _) (l5 hs (λ atE yZ hs=>?_));have hs:=hs.p9.p9.p9.p9.p9.p9.p8.p8.p9.p9;exact ⟨_,rfl,eF.shut (t:=qd c) aro hs⟩
     ·trivial
   ·rintro _ Cp ⟨tb,rfl,hs⟩ oS;refine bG aeC hs (H':=λ _=>eF K tb m.room t1) (Φ:=λ _ _=>True) (λ F2 eQ eA=>?_) ?_
    ·exact (C122 K tb m.room (qd c) t1 N F2 _ eQ (λ w' hc=>hK w' (eA w' hc).aF) (I9 hco) hg).mono λ _ _ r=>r.mono λ _ _ h=>⟨trivial,h.2⟩
    rintro _ Iv _ hs;refine aE (aA jg ?_);have vj:=(hs.p4).lj;refine aB py hs.p2.hb rfl (bW ([(⟨tb⟩:Ptr)]) hs ql rfl rfl (eI rfl) (λ ars Jy hs=>?_));have akj:=(hs).fB;refine cN hs.p4 ql akj (by rw [List.length_take] at vj; simp; omega) (by decide) (λ agm KG hs=>have hs:=hs.p1.drop;aE (aA jg (aV hs.p3 py (eI rfl) ((hs).fB.one) (λ MH hs=>?_))));intro GQ;refine aO (by omega) ?_;have hs:=(((((St.DQ (H:=qc K m.room) (p:=⟨tb⟩) (x:=t1) hs.p2.p4).p3).drop).p4).p4).p2;have hs:=hs.p4.p4;exact ⟨_,by omega,j+1,agm,ps++[⟨tb⟩],rfl,rfl,by omega,by rw [← gX (k:=j) ht1]; exact hs⟩
  ·have hs:=hs.p2.p2.p3.p4.p4;rw [List.take_of_length_le (by have:=hb.1; omega)] at hs;exact ⟨rfl,(eO.shut (m:=lH m ni) (a:={a with lk:=HG,ll:=Xm,ps:=ps}) ⟨hu.ln,hu.cl,hu.rc,hu.mem⟩ hs).mut⟩
def ir (m:gE) (q:et):Option (List Int):=if q.kind=3∧q.t=0∧q.i=0∧m.fault=0 then jr m.mem q.cut else none
def vf (m:gE) (qb:List Int):gE:={m with mem:=yO m.mem qb,dT:=m.dT+1}
def Cx (N:Nat) (m:gE) (q:et):Option (gE × dC × Int):=match ir m q with
 | some qb=>(sN N (qd m.u.recover)).map λ t=>(lH (vf m qb) [t],⟨15,0,0,Az q.cut q.cut.length,0⟩,0)
 | none=>if (ft m).any (jP q)=true then
   (if q.kind=2 then (m.l[q.t.toNat]?).map λ t=>(mB m t q,pP q.t (ej t.buf q.i),0) else (mI N m q.t).map λ r=>(r.1,r.2,0))
  else some (m,⟨0,0,0,0,0⟩,13)
section
variable {N:Nat} {m m2:gE} {q:et} {ev:dC} {e:Int} {qb:List Int}
theorem qP (h:Cx N m q=some (m2,ev,e)) (hc:ir m q=some qb):∃ t,sN N (qd m.u.recover)=some t∧m2=lH (vf m qb) [t]∧ev=⟨15,0,0,Az q.cut q.cut.length,0⟩∧e=0:=by
 unfold Cx at h; rw [hc] at h; dsimp only at h
 cases hg:sN N (qd m.u.recover) with
 | none=>rw [hg] at h; cases h
 | some t=>rw [hg] at h; cases h; exact ⟨t,rfl,rfl,rfl,rfl⟩
theorem qF (h:Cx N m q=some (m2,ev,e)) (hc:ir m q=none) (ha:¬ (ft m).any (jP q)=true):m2=m∧ev=⟨0,0,0,0,0⟩∧e=13:=by
 unfold Cx at h; rw [hc] at h; dsimp only at h; rw [if_neg ha] at h
 cases h; exact ⟨rfl,rfl,rfl⟩
theorem qG {t:fK} (h:Cx N m q=some (m2,ev,e)) (hc:ir m q=none) (ha:(ft m).any (jP q)=true) (hk:q.kind=2) (ht:m.l[q.t.toNat]? = some t):m2=mB m t q∧ev=pP q.t (ej t.buf q.i)∧e=0:=by
 unfold Cx at h; rw [hc] at h; dsimp only at h; rw [if_pos ha,if_pos hk,ht] at h
 cases h; exact ⟨rfl,rfl,rfl⟩
theorem oy (h:Cx N m q=some (m2,ev,e)) (hc:ir m q=none) (ha:(ft m).any (jP q)=true) (hk:¬ q.kind=2):mI N m q.t=some (m2,ev)∧e=0:=by
 unfold Cx at h; rw [hc] at h; dsimp only at h; rw [if_pos ha,if_neg hk] at h
 cases hs:mI N m q.t with
 | none=>rw [hs] at h; cases h
 | some r=>rw [hs] at h; cases h; exact ⟨rfl,rfl⟩
theorem wK {k:Nat} {x:et} (h:x∈kW m k):∃ i t,i<k∧m.l[i]? = some t∧x∈tq m i t:=by
 unfold kW at h
 rw [List.mem_flatMap] at h
 obtain ⟨i,hi,hx⟩:=h
 cases ht:m.l[i]? with
 | none=>rw [ht] at hx; cases hx
 | some t=>rw [ht] at hx; exact ⟨i,t,List.mem_range.1 hi,ht,hx⟩
theorem LW {i:Nat} {t:fK} {x:et} (h:x∈tq m i t):x.t=i:=by
 unfold tq at h
 rw [List.mem_append] at h
 rcases h with h | h
 ·split at h
  ·simp at h; rw [h]
  ·cases h
 ·rw [List.mem_map] at h; obtain ⟨_,_,rfl⟩:=h; rfl
theorem tx (h:(ft m).any (jP q)=true):0≤q.t∧∃ t,m.l[q.t.toNat]? = some t:=by
 rw [List.any_eq_true] at h
 obtain ⟨x,hx,hs⟩:=h
 unfold ft at hx
 split at hx
 ·cases hx
 ·obtain ⟨i,t,_,ht,AZ⟩:=wK hx
  have h1:=LW AZ
  unfold jP at hs
  simp only [Bool.and_eq_true,decide_eq_true_eq] at hs
  have:q.t=(i:Int):=by omega
  rw [this]; exact ⟨by omega,t,ht⟩
theorem pa (h:qx m):(ft m).length≤1001000:=by
 unfold ft; split
 ·simp
 ·exact Nat.le_trans (wI h _) (Nat.mul_le_mul_right 1001 h.tl)
end
def Xn (m:Mem) (cut:List Int) (v:Value) (m2:Mem):Prop:=(jr m cut=none∧m2=m∧v = .int .i64 1)∨∃ qb,jr m cut=some qb∧m2=yO m qb∧v = .int .i64 0
theorem SA {m:Mem} {cut:List Int} {v:Value} {p:Nat} {ov fv:Value} {F:Nat→Prop} {w w':World}
  (h:(jr m cut=none∧v = .int .i64 1∧qn F (fW p ov fv m) w w')∨∃ qb,jr m cut=some qb∧v = .int .i64 0∧qn F (fW p ov fv (yO m qb)) w w') :
  True∧qn F (tW λ m2=>fact (Xn m cut v m2) (fW p ov fv m2)) w w':=by
 refine ⟨trivial,?_⟩
 rcases h with ⟨h1,h2,F',h3,h4,h5⟩ | ⟨qb,h1,h2,F',h3,h4,h5⟩
 ·exact ⟨F',⟨m,.inl ⟨h1,rfl,h2⟩,h3⟩,h4,h5⟩
 ·exact ⟨F',⟨yO m qb,.inr ⟨qb,h1,rfl,h2⟩,h3⟩,h4,h5⟩
set_option maxHeartbeats 1000000 in
theorem C15 (u:ib) (uv:dJ) (room:Int) (N:Nat) (ni:List fK) (w:World) (hu:bZ.dr w uv u) (hz:UZ u) (hn:nx u=true→QS N u ni):CR 15 [Flat.val uv,.int .i64 room] w (λ v w'=>(nx u=false∧v = .tuple #[.pointer none,.int .i64 8]∧Ext w w')∨(nx u=true∧(room<1∨16<room)∧v = .tuple #[.pointer none,.int .i64 1]∧Ext w w')∨(nx u=true∧1≤room∧room≤16∧∃ K p,v = .tuple #[.pointer (some ⟨p,0,none⟩),.int .i64 0]∧lY (sep (eO K p (lH (mC u room) ni)) (eU K)) w w')):=by
 obtain ⟨iD,gH,eY,sD,fh,rfl,iE,jo,iY,jO,kV⟩:=hu;obtain ⟨dK,rfl,ij⟩:=jO;have hs:=St.start w;refine agS _ _ _ _ ?_;unfold S15;refine dE hs (λ b_u2 w1 hs=>aD tK hs.At (aZ auI hs (C51 u _ _ ⟨iD,gH,eY,(⟨((u).recover).aK,((u).recover).counts,dK⟩:cK),fh,rfl,(iE.ext hs.aF),(jo.ext hs.aF),(iY.ext hs.aF),⟨dK,rfl,(ij.ext hs.aF)⟩,(kV.ext hs.aF)⟩ hz) (λ w2 he hs=>cB (aX (λ gP=>?_) (λ gP=>?_)))))
 ·exact .inl ⟨by simpa using gP,rfl,hs.drop.aF⟩
 ·have AY:=hn (by simpa using gP);refine eD amR (C52 room _) ?_;rintro v_x14 w3 akk
  rcases akk with ⟨YF,rfl,he⟩ | ⟨hr1,Gl,b52,rfl,bY⟩
  ·have hs:=hs.ext he;refine bE rfl (bE rfl (cQ (fC (by decide) ?_)));exact .inr (.inl ⟨by simpa using gP,YF,rfl,hs.drop.aF⟩)
  ·have hs:=hs.made bY;refine bE rfl (bE rfl (cQ (fV (by decide) (aD tK hs.p1.At (eD auJ (C53 u _ _ ⟨iD,gH,eY,(⟨((u).recover).aK,((u).recover).counts,dK⟩:cK),fh,rfl,(iE.ext hs.aF),(jo.ext hs.aF),(iY.ext hs.aF),⟨dK,rfl,(ij.ext hs.aF)⟩,(kV.ext hs.aF)⟩ hz) ?_)))));rintro _ w4 ⟨Xo,rfl,bY⟩;have hs:=hs.made bY;refine pop (Na _ _ _ _ _ _ _ _ _ _ _ _ _ _ _ _ _ _ _ _) (l5 hs (λ B3 w5 hs=>aA mz (aB eu hs.p3.hb rfl ?_)));have art:=DL.flat (iE);refine aA lK (aB (v:=.int .i64 ((u).stays)) bL hs.p3.hb rfl (aA r8 (aB eu hs.p3.hb rfl ?_)))
   have aru:=DL.flat (jo);refine eD auK (C54 u.lines u.cT u.stays _ _ _ (art.ext hs.aF) (aru.ext hs.aF) AY.len AY.l20 AY.st AY.ln) ?_;rintro v33 w6 ⟨q,ov,fv,rfl,bY⟩;have hs:=((hs.made bY).split).p1.split;refine bE rfl (bE rfl (aE (aA jH (aV hs.p3 sd (eI rfl) (rfl) (λ w7 hs=>aE (aA tL (aA r9 (aB FI hs.hb rfl ?_))))))));obtain ⟨s1,s2,s3,s4,s5,hsh,q1,q2,q3,q4,q5⟩:=(hs.p4).eU;obtain ⟨g4,hs4,_⟩:=q4;subst hs4;subst hsh;have hs:=hs.p4.p2.p4.p4.p4;obtain ⟨K,Ot,hs,ayx,ayy⟩:=Xl (room:=room) (sh:=(⟨s1,u.stays,s2,u.locks,s3,⟨u.recover.aK,u.recover.counts,g4⟩,s5⟩:dJ)) hs
   refine bG amS hs (H':=λ _=>eO K B3 (lH (mC u room) ni)) (Φ:=λ _ _=>True) (λ F2 eQ eA=>?_) ?_
   ·exact (C55 K B3 (mC u room) N u.threads ni _ Ot F2 _ eQ (λ w' hc=>(eA w' hc).eU) ⟨hr1,Gl⟩ AY.lk (λ w' hc=>ayx w' (eA w' hc).eU) ayy AY.co AY.b hz.threads).mono λ _ _ r=>r.mono λ _ _ h=>⟨trivial,h.2⟩
   rintro _ w8 _ hs;have hs:=((hs.p2.drop.p2.drop).p1).p1;exact .inr (.inr ⟨by simpa using gP,hr1,Gl,K,B3,rfl,(St.join hs).fresh⟩)
set_option maxHeartbeats 2000000 in
theorem C17 (K:World→Prop) (p:Nat) (m:gE) (N:Nat) (q:et) (gc:SV) (m2:gE) (ev:dC) (e:Int) (F:Nat→Prop) (w:World) (hF:(eO K p m).p w F) (hK:∀ w',ix F w w'→K w') (lZ:qx m) (tB:MB m.mem 1000000) (hcb:0≤m.dT∧m.dT≤1000000) (ayz:BK m.u.recover) (ME:0≤m.u.locks∧m.u.locks≤1000) (AF:∀ w',ix F w w'→eJ (λ _=>True) w' (Flat.val gc) q.cut) (hql:q.cut.length≤1000) (hd:Cx N m q=some (m2,ev,e)):CR 17 [(.pointer (some ⟨p,0,none⟩)),Flat.val (⟨q.kind,q.t,q.i,gc⟩:dZ)] w (λ v w'=>v = .tuple #[Flat.val ev,.int .i64 e]∧qn F (eO K p m2) w w'):=by
 have hs:=St.begin hF;obtain ⟨a,hu,hs⟩:=eO.open hs;have wJ:=hs.p4.lj;refine agU _ _ _ _ ?_;unfold S17;refine dE (x:=(⟨q.kind,q.t,q.i,gc⟩:dZ)) hs (λ wq w1 hs=>aN hs lD (λ Cr w2 hs=>?_));refine ⟨_,?_,λ _ _ h=>h⟩;refine aA pg (have hs:=hs.drew;aB (v:=.int .i64 q.kind) bL hs.p1.hb rfl (aH (aC (λ gv=>?_) (λ gv=>?_))))
 ·refine aA jG (aB (v:=.int .i64 q.t) bL hs.p1.hb rfl (aH (aC (λ kJ=>?_) (λ kJ=>?_))))
  ·refine aA xc (aB (v:=.int .i64 q.i) bL hs.p1.hb rfl (aH (aC (λ gh=>?_) (λ gh=>?_))))
   ·refine aE (aA nT (aB bL hs.p2.hb rfl (aH (aC (λ fQ=>?_) (λ fQ=>?_)))))
    ·refine aE (aA jH (aB sd hs.p2.hb rfl (aA sb (aB (v:=Flat.val (gc:SV)) eu hs.p1.hb rfl (bG auN hs.p3 (H':=λ v=>tW λ m2=>fact (Xn m.mem q.cut v m2) (fW a.q a.ov a.fv m2)) (Φ:=λ _ _=>True) (λ F2 eQ eA=>?_) ?_)))))
     ·exact (C58 a.q a.ov a.fv m.mem F2 q.cut _ _ eQ (λ w' hc=>hu.mem _ (hK w' (eA w' hc).aF)) lZ.mem tB (λ w' hc=>AF w' (eA w' hc).aF) hql).mono λ _ _ r=>r.mono λ _ _ h=>SA h
     rintro v34 w3 _ AG;obtain ⟨m2c,AH⟩:=AG.eV
     clear AG
     obtain ⟨hcf,CX⟩:=AH.oE
     clear AH
     rcases hcf with ⟨him,rfl,rfl⟩ | ⟨qb,him,rfl,rfl⟩
     ·have hs:=CX;have CM:ir m q=none:=by unfold ir; rw [if_pos ⟨gv,kJ,gh,fQ⟩]; exact him
      refine aH ?_;intro fy;refine fV (by decide) (have hs:=eO.shut (m:=m) hu hs.p6.p6.p6.p3.p6;cZ HL hs (C16 K p m _ hs.has (hK _ hs.aF) (λ w2 e=>hK _ (hs.aF.then e)) lZ) (λ x58 pS bY hs=>?_));have Wo:=hs.p3.At;have Kv:n8 PG _ (.func (.func 60) [].toArray [.pointer (some ⟨wq,0,none⟩)].toArray) (λ _:et=>True) (jP q):=
 ⟨60,[],_,rfl,TT,λ sx y w1 e1 CY _=>C60 y q sx wq (⟨q.kind,q.t,q.i,gc⟩:dZ) w1 CY (Wo.ext e1) ⟨gc,rfl,DL.fp (AF _ (hs.aF.then e1))⟩⟩
      refine aZ TU hs (C61 _ _ _ (λ _=>True) _ _ (hs).dl Kv (λ _ _=>trivial) (by have:=pa lZ; omega)) (λ sU he hs=>cB (aX (λ kx=>?_) (λ kx=>?_)))
      ·refine pop (DD) (aI (x:=(⟨0,0,0,0,0⟩:dC)) hs.p2 eZ rfl rfl (λ vm hs=>aD eZ hs.At ?_));have hs:=((((hs.drop)).drop).p1).drop;obtain ⟨rfl,rfl,rfl⟩:=qF hd CM (by simpa using kx);exact ⟨rfl,hs.mut⟩
      ·have qQ:(ft m).any (jP q)=true:=by simpa using kx
       obtain ⟨h0,t,ht⟩:=tx qQ;refine aA pg (aB (v:=.int .i64 q.kind) bL hs.p3.hb rfl (aH (aC (λ nf=>?_) (λ nf=>?_))))
       ·refine aD nJ hs.p3.At ?_;obtain ⟨rfl,rfl,rfl⟩:=qG hd CM qQ nf ht;have hs:=hs.p1;refine bG TV hs (H':=λ _=>eO K p (mB m t q)) (Φ:=λ v _=>v=Flat.val (pP q.t (ej t.buf q.i))) (λ F2 eQ eA=>?_) ?_
        ·exact C62 K p m q (⟨q.kind,q.t,q.i,gc⟩:dZ) t F2 _ eQ (λ w' hc=>hK w' (eA w' hc).aF) lZ tB ⟨gc,rfl,DL.fp (AF _ hs.aF)⟩ h0 ht
        rintro _ vn rfl hs;refine aI (x:=(pP q.t (ej t.buf q.i))) hs.p2 eZ rfl rfl (λ sm hs=>aD eZ hs.At ?_);have hs:=(((hs.drop.p1).drop).p1).drop;exact ⟨rfl,hs.mut⟩
       ·refine aA jG (aB (v:=.int .i64 q.t) bL hs.p3.hb rfl ?_);obtain ⟨sG,rfl⟩:=oy hd CM qQ nf;have hs:=hs.p1;refine bG TX hs (H':=λ _=>eO K p m2) (Φ:=λ v _=>v=Flat.val ev) (λ F2 eQ eA=>?_) ?_
        ·exact C63 K p m N q.t t m2 ev F2 _ eQ (λ w' hc=>hK w' (eA w' hc).aF) lZ tB h0 ht sG
        rintro _ v7 rfl hs;refine aI (x:=ev) hs.p2 eZ rfl rfl (λ yZ hs=>aD eZ hs.At ?_);have hs:=(((hs.drop.p1).drop).p1).drop;exact ⟨rfl,hs.mut⟩
     ·have hs:=CX;have CM:ir m q=some qb:=by unfold ir; rw [if_pos ⟨gv,kJ,gh,fQ⟩]; exact him
      refine aH ?_;intro fy;refine fC (by decide) (aE (aA Dx (aB bL hs.p3.hb rfl (aO (by omega) (aE (aA Dx (aV hs.p3 bL (eI rfl) (rfl) (λ w5 hs=>aE (aA tL (aA zA (uO (⟨m.u.recover.aK,m.u.recover.counts,a.rcl⟩:cK) pW hs.hb rfl (bW ([(⟨m.u.recover.aK,m.u.recover.counts,a.rcl⟩:cK)]) hs Be rfl rfl (eI rfl) (λ VB w6 hs=>?_)))))))))))));have hs:=eO.shut (m:=(vf m qb)) ⟨hu.ln,hu.cl,hu.rc,hu.mem⟩ hs.p7.p7.p7.p5.p5;obtain ⟨t2,hg,rfl,rfl,rfl⟩:=qP hd CM;have hs:=hs.p1.p1;refine bG amS hs (H':=λ _=>eO K p (lH (vf m qb) [t2])) (Φ:=λ _ _=>True) (λ F2 eQ eA=>?_) ?_
      ·exact (C55 K p (vf m qb) N [m.u.recover] [t2] _ [(⟨m.u.recover.aK,m.u.recover.counts,a.rcl⟩:cK)] F2 _ eQ (λ w' hc=>hK w' (eA w' hc).aF) lZ.rm ME (λ w' hc=>(eA w' hc).fB) ⟨rfl,λ j cv c h1 h2=>by cases j with | zero=>(simp at h1 h2; subst h1 h2; exact ⟨a.rcl,rfl,hu.rc⟩) | succ j=>simp at h1⟩ (by simpa using ayz) ⟨rfl,λ j c t h1 h2=>by cases j with | zero=>(simp at h1 h2; subst h1 h2; exact hg) | succ j=>simp at h1⟩ (by simp)).mono λ _ _ r=>r.mono λ _ _ h=>⟨trivial,h.2⟩
      rintro _ w7 _ hs;refine aA sb (aB (v:=Flat.val (gc:SV)) eu hs.p3.hb rfl (aZ auO hs (C59 _ q.cut _ (AF _ hs.aF) (by omega)) (λ w8 he hs=>pop (tV _ _) (aI (x:=(⟨15,0,0,(Az q.cut q.cut.length),0⟩:dC)) hs.p2 eZ rfl rfl (λ w9 hs=>aD eZ hs.At ?_)))));have hs:=(((hs.drop.p1).drop).p1).drop;exact ⟨rfl,hs.mut⟩
    ·have CM:ir m q=none:=by unfold ir; rw [if_neg (by exact λ h=>fQ h.2.2.2)]
     intro fy;refine fP (have hs:=eO.shut (m:=m) hu hs.p6.p6.p6.p6.p6;cZ HL hs (C16 K p m _ hs.has (hK _ hs.aF) (λ w2 e=>hK _ (hs.aF.then e)) lZ) (λ x58 pS bY hs=>?_));have Wo:=hs.p3.At;have Kv:n8 PG _ (.func (.func 60) [].toArray [.pointer (some ⟨wq,0,none⟩)].toArray) (λ _:et=>True) (jP q):=
 ⟨60,[],_,rfl,TT,λ sx y w1 e1 CY _=>C60 y q sx wq (⟨q.kind,q.t,q.i,gc⟩:dZ) w1 CY (Wo.ext e1) ⟨gc,rfl,DL.fp (AF _ (hs.aF.then e1))⟩⟩
     refine aZ TU hs (C61 _ _ _ (λ _=>True) _ _ (hs).dl Kv (λ _ _=>trivial) (by have:=pa lZ; omega)) (λ sU he hs=>cB (aX (λ kx=>?_) (λ kx=>?_)))
     ·refine pop (DD) (aI (x:=(⟨0,0,0,0,0⟩:dC)) hs.p2 eZ rfl rfl (λ vm hs=>aD eZ hs.At ?_));have hs:=((((hs.drop)).drop).p1).drop;obtain ⟨rfl,rfl,rfl⟩:=qF hd CM (by simpa using kx);exact ⟨rfl,hs.mut⟩
     ·have qQ:(ft m).any (jP q)=true:=by simpa using kx
      obtain ⟨h0,t,ht⟩:=tx qQ;refine aA pg (aB (v:=.int .i64 q.kind) bL hs.p3.hb rfl (aH (aC (λ nf=>?_) (λ nf=>?_))))
      ·refine aD nJ hs.p3.At ?_;obtain ⟨rfl,rfl,rfl⟩:=qG hd CM qQ nf ht;have hs:=hs.p1;refine bG TV hs (H':=λ _=>eO K p (mB m t q)) (Φ:=λ v _=>v=Flat.val (pP q.t (ej t.buf q.i))) (λ F2 eQ eA=>?_) ?_
       ·exact C62 K p m q (⟨q.kind,q.t,q.i,gc⟩:dZ) t F2 _ eQ (λ w' hc=>hK w' (eA w' hc).aF) lZ tB ⟨gc,rfl,DL.fp (AF _ hs.aF)⟩ h0 ht
       rintro _ vn rfl hs;refine aI (x:=(pP q.t (ej t.buf q.i))) hs.p2 eZ rfl rfl (λ sm hs=>aD eZ hs.At ?_);have hs:=(((hs.drop.p1).drop).p1).drop;exact ⟨rfl,hs.mut⟩
      ·refine aA jG (aB (v:=.int .i64 q.t) bL hs.p3.hb rfl ?_);obtain ⟨sG,rfl⟩:=oy hd CM qQ nf;have hs:=hs.p1;refine bG TX hs (H':=λ _=>eO K p m2) (Φ:=λ v _=>v=Flat.val ev) (λ F2 eQ eA=>?_) ?_
       ·exact C63 K p m N q.t t m2 ev F2 _ eQ (λ w' hc=>hK w' (eA w' hc).aF) lZ tB h0 ht sG
       rintro _ v7 rfl hs;refine aI (x:=ev) hs.p2 eZ rfl rfl (λ yZ hs=>aD eZ hs.At ?_);have hs:=(((hs.drop.p1).drop).p1).drop;exact ⟨rfl,hs.mut⟩
   ·have CM:ir m q=none:=by unfold ir; rw [if_neg (by exact λ h=>gh h.2.2.1)]
    intro fy;refine fP (have hs:=eO.shut (m:=m) hu hs.p6.p6.p6.p6.p6;cZ HL hs (C16 K p m _ hs.has (hK _ hs.aF) (λ w2 e=>hK _ (hs.aF.then e)) lZ) (λ x58 pS bY hs=>?_));have Wo:=hs.p3.At;have Kv:n8 PG _ (.func (.func 60) [].toArray [.pointer (some ⟨wq,0,none⟩)].toArray) (λ _:et=>True) (jP q):=
 ⟨60,[],_,rfl,TT,λ sx y w1 e1 CY _=>C60 y q sx wq (⟨q.kind,q.t,q.i,gc⟩:dZ) w1 CY (Wo.ext e1) ⟨gc,rfl,DL.fp (AF _ (hs.aF.then e1))⟩⟩
    refine aZ TU hs (C61 _ _ _ (λ _=>True) _ _ (hs).dl Kv (λ _ _=>trivial) (by have:=pa lZ; omega)) (λ sU he hs=>cB (aX (λ kx=>?_) (λ kx=>?_)))
    ·refine pop (DD) (aI (x:=(⟨0,0,0,0,0⟩:dC)) hs.p2 eZ rfl rfl (λ vm hs=>aD eZ hs.At ?_));have hs:=((((hs.drop)).drop).p1).drop;obtain ⟨rfl,rfl,rfl⟩:=qF hd CM (by simpa using kx);exact ⟨rfl,hs.mut⟩
    ·have qQ:(ft m).any (jP q)=true:=by simpa using kx
     obtain ⟨h0,t,ht⟩:=tx qQ;refine aA pg (aB (v:=.int .i64 q.kind) bL hs.p3.hb rfl (aH (aC (λ nf=>?_) (λ nf=>?_))))
     ·refine aD nJ hs.p3.At ?_;obtain ⟨rfl,rfl,rfl⟩:=qG hd CM qQ nf ht;have hs:=hs.p1;refine bG TV hs (H':=λ _=>eO K p (mB m t q)) (Φ:=λ v _=>v=Flat.val (pP q.t (ej t.buf q.i))) (λ F2 eQ eA=>?_) ?_
      ·exact C62 K p m q (⟨q.kind,q.t,q.i,gc⟩:dZ) t F2 _ eQ (λ w' hc=>hK w' (eA w' hc).aF) lZ tB ⟨gc,rfl,DL.fp (AF _ hs.aF)⟩ h0 ht
      rintro _ vn rfl hs;refine aI (x:=(pP q.t (ej t.buf q.i))) hs.p2 eZ rfl rfl (λ sm hs=>aD eZ hs.At ?_);have hs:=(((hs.drop.p1).drop).p1).drop;exact ⟨rfl,hs.mut⟩
     ·refine aA jG (aB (v:=.int .i64 q.t) bL hs.p3.hb rfl ?_);obtain ⟨sG,rfl⟩:=oy hd CM qQ nf;have hs:=hs.p1;refine bG TX hs (H':=λ _=>eO K p m2) (Φ:=λ v _=>v=Flat.val ev) (λ F2 eQ eA=>?_) ?_
      ·exact C63 K p m N q.t t m2 ev F2 _ eQ (λ w' hc=>hK w' (eA w' hc).aF) lZ tB h0 ht sG
      rintro _ v7 rfl hs;refine aI (x:=ev) hs.p2 eZ rfl rfl (λ yZ hs=>aD eZ hs.At ?_);have hs:=(((hs.drop.p1).drop).p1).drop;exact ⟨rfl,hs.mut⟩
  ·have CM:ir m q=none:=by unfold ir; rw [if_neg (by exact λ h=>kJ h.2.1)]
   intro fy;refine fP (have hs:=eO.shut (m:=m) hu hs.p6.p6.p6.p6.p6;cZ HL hs (C16 K p m _ hs.has (hK _ hs.aF) (λ w2 e=>hK _ (hs.aF.then e)) lZ) (λ x58 pS bY hs=>?_));have Wo:=hs.p3.At;have Kv:n8 PG _ (.func (.func 60) [].toArray [.pointer (some ⟨wq,0,none⟩)].toArray) (λ _:et=>True) (jP q):=
 ⟨60,[],_,rfl,TT,λ sx y w1 e1 CY _=>C60 y q sx wq (⟨q.kind,q.t,q.i,gc⟩:dZ) w1 CY (Wo.ext e1) ⟨gc,rfl,DL.fp (AF _ (hs.aF.then e1))⟩⟩
   refine aZ TU hs (C61 _ _ _ (λ _=>True) _ _ (hs).dl Kv (λ _ _=>trivial) (by have:=pa lZ; omega)) (λ sU he hs=>cB (aX (λ kx=>?_) (λ kx=>?_)))
   ·refine pop (DD) (aI (x:=(⟨0,0,0,0,0⟩:dC)) hs.p2 eZ rfl rfl (λ vm hs=>aD eZ hs.At ?_));have hs:=((((hs.drop)).drop).p1).drop;obtain ⟨rfl,rfl,rfl⟩:=qF hd CM (by simpa using kx);exact ⟨rfl,hs.mut⟩
   ·have qQ:(ft m).any (jP q)=true:=by simpa using kx
    obtain ⟨h0,t,ht⟩:=tx qQ;refine aA pg (aB (v:=.int .i64 q.kind) bL hs.p3.hb rfl (aH (aC (λ nf=>?_) (λ nf=>?_))))
    ·refine aD nJ hs.p3.At ?_;obtain ⟨rfl,rfl,rfl⟩:=qG hd CM qQ nf ht;have hs:=hs.p1;refine bG TV hs (H':=λ _=>eO K p (mB m t q)) (Φ:=λ v _=>v=Flat.val (pP q.t (ej t.buf q.i))) (λ F2 eQ eA=>?_) ?_
     ·exact C62 K p m q (⟨q.kind,q.t,q.i,gc⟩:dZ) t F2 _ eQ (λ w' hc=>hK w' (eA w' hc).aF) lZ tB ⟨gc,rfl,DL.fp (AF _ hs.aF)⟩ h0 ht
     rintro _ vn rfl hs;refine aI (x:=(pP q.t (ej t.buf q.i))) hs.p2 eZ rfl rfl (λ sm hs=>aD eZ hs.At ?_);have hs:=(((hs.drop.p1).drop).p1).drop;exact ⟨rfl,hs.mut⟩
    ·refine aA jG (aB (v:=.int .i64 q.t) bL hs.p3.hb rfl ?_);obtain ⟨sG,rfl⟩:=oy hd CM qQ nf;have hs:=hs.p1;refine bG TX hs (H':=λ _=>eO K p m2) (Φ:=λ v _=>v=Flat.val ev) (λ F2 eQ eA=>?_) ?_
     ·exact C63 K p m N q.t t m2 ev F2 _ eQ (λ w' hc=>hK w' (eA w' hc).aF) lZ tB h0 ht sG
     rintro _ v7 rfl hs;refine aI (x:=ev) hs.p2 eZ rfl rfl (λ yZ hs=>aD eZ hs.At ?_);have hs:=(((hs.drop.p1).drop).p1).drop;exact ⟨rfl,hs.mut⟩
 ·have CM:ir m q=none:=by unfold ir; rw [if_neg (by exact λ h=>gv h.1)]
  intro fy;refine fP (have hs:=eO.shut (m:=m) hu hs.p6.p6.p6.p6.p6;cZ HL hs (C16 K p m _ hs.has (hK _ hs.aF) (λ w2 e=>hK _ (hs.aF.then e)) lZ) (λ x58 pS bY hs=>?_));have Wo:=hs.p3.At;have Kv:n8 PG _ (.func (.func 60) [].toArray [.pointer (some ⟨wq,0,none⟩)].toArray) (λ _:et=>True) (jP q):=
 ⟨60,[],_,rfl,TT,λ sx y w1 e1 CY _=>C60 y q sx wq (⟨q.kind,q.t,q.i,gc⟩:dZ) w1 CY (Wo.ext e1) ⟨gc,rfl,DL.fp (AF _ (hs.aF.then e1))⟩⟩
  refine aZ TU hs (C61 _ _ _ (λ _=>True) _ _ (hs).dl Kv (λ _ _=>trivial) (by have:=pa lZ; omega)) (λ sU he hs=>cB (aX (λ kx=>?_) (λ kx=>?_)))
  ·refine pop (DD) (aI (x:=(⟨0,0,0,0,0⟩:dC)) hs.p2 eZ rfl rfl (λ vm hs=>aD eZ hs.At ?_));have hs:=((((hs.drop)).drop).p1).drop;obtain ⟨rfl,rfl,rfl⟩:=qF hd CM (by simpa using kx);exact ⟨rfl,hs.mut⟩
  ·have qQ:(ft m).any (jP q)=true:=by simpa using kx
   obtain ⟨h0,t,ht⟩:=tx qQ;refine aA pg (aB (v:=.int .i64 q.kind) bL hs.p3.hb rfl (aH (aC (λ nf=>?_) (λ nf=>?_))))
   ·refine aD nJ hs.p3.At ?_;obtain ⟨rfl,rfl,rfl⟩:=qG hd CM qQ nf ht;have hs:=hs.p1;refine bG TV hs (H':=λ _=>eO K p (mB m t q)) (Φ:=λ v _=>v=Flat.val (pP q.t (ej t.buf q.i))) (λ F2 eQ eA=>?_) ?_
    ·exact C62 K p m q (⟨q.kind,q.t,q.i,gc⟩:dZ) t F2 _ eQ (λ w' hc=>hK w' (eA w' hc).aF) lZ tB ⟨gc,rfl,DL.fp (AF _ hs.aF)⟩ h0 ht
    rintro _ vn rfl hs;refine aI (x:=(pP q.t (ej t.buf q.i))) hs.p2 eZ rfl rfl (λ sm hs=>aD eZ hs.At ?_);have hs:=(((hs.drop.p1).drop).p1).drop;exact ⟨rfl,hs.mut⟩
   ·refine aA jG (aB (v:=.int .i64 q.t) bL hs.p3.hb rfl ?_);obtain ⟨sG,rfl⟩:=oy hd CM qQ nf;have hs:=hs.p1;refine bG TX hs (H':=λ _=>eO K p m2) (Φ:=λ v _=>v=Flat.val ev) (λ F2 eQ eA=>?_) ?_
    ·exact C63 K p m N q.t t m2 ev F2 _ eQ (λ w' hc=>hK w' (eA w' hc).aF) lZ tB h0 ht sG
    rintro _ v7 rfl hs;refine aI (x:=ev) hs.p2 eZ rfl rfl (λ yZ hs=>aD eZ hs.At ?_);have hs:=(((hs.drop.p1).drop).p1).drop;exact ⟨rfl,hs.mut⟩
def Cg (t:fK):Bool:=(gS t).isNone && decide (t.buf.length=0)
def uw (m:gE):Bool:=decide (m.fault=0) && !(List.range m.l.length).any λ i=>match m.l[i]? with | some t=>!Cg t | none=>false
def yU (m:gE):Bool:=decide (m.fault=0) && (!uw m && decide (((ft m).length:Int)=0))
def ke (m:gE):iz:=⟨m.dT,m.fault,m.mO,uw m,yU m⟩
def yV (m:gE) (l:List nt):Bool:=decide ((runM l (m.mem.l.take m.u.stays.toNat)).2=0) && decide ((runM l (m.mem.l.take m.u.stays.toNat)).1≠0)
def C0 (m:gE):List Bool:=m.u.cC.map (yV m)
theorem tH.ext {w w':World} {b:Nat} {cs:List Value} (h:tH w b cs) (e:Ext w w'):tH w' b cs:=h.of_eq (e.cE b h.lt λ h=>h)
theorem Ow {a:MA} {m:gE} (h1:rT a.lk=true) (h2:rT a.ll=true):∀ v∈jX a m,rT v=true:=by
 intro v hv
 simp only [List.mem_cons,List.not_mem_nil,or_false] at hv
 rcases hv with rfl | rfl | rfl | rfl | rfl | rfl | rfl | rfl | rfl | rfl | rfl | rfl | rfl | rfl | rfl | rfl <;> first | rfl | exact h1 | exact h2
theorem Ox {bp:Nat} {c:fm} {gl rg cn:Value} {x f e g:Int} (h1:rT gl=true) (h2:rT rg=true) (h3:rT cn=true) :
  ∀ v∈[Value.pointer (some ⟨bp,0,none⟩),.int .i64 c.aK,.int .i64 c.counts,gl,.int .i64 x,rg,cn,.int .i64 f,.int .i64 e,.int .i64 g],rT v=true:=by
 intro v hv
 simp only [List.mem_cons,List.not_mem_nil,or_false] at hv
 rcases hv with rfl | rfl | rfl | rfl | rfl | rfl | rfl | rfl | rfl | rfl <;> first | rfl | exact h1 | exact h2 | exact h3
theorem Hf {n k:Nat} (h:k<n):(List.range n)[k]? = some k:=List.getElem?_range h
theorem C64 (K:World→Prop) (p:Nat) (room:Int) (t:fK) (w:World) (hh:Has (eF K p room t) w) (uE:∀ w',Ext w w'→K w') (oF:G9 t):CR 64 [(.pointer (some ⟨p,0,none⟩))] w (λ v w'=>v = .bool (Cg t)∧Ext w w'):=by
 obtain ⟨bp,gl,rg,cn,_,ox,hB,Bw,YD⟩:=eF.rd hh;have W7:=ox.cell (o:=0) rfl;have hs:=St.start w;refine ahB _ _ _ ?_;unfold S64;refine eD Y0 (C65 K p room t _ (hh.ext hs.aF) (uE _ hs.aF) oF) ?_;rintro v_x7 w1 arv
 rcases arv with ⟨vu,rfl,he⟩ | ⟨x,xv,vu,hxv,rfl,he⟩
 ·have hs:=hs.ext he;refine bE rfl (bE rfl (aN hs mA (λ Lg w2 hs=>have hs:=hs.enc (cs':=Flat.enc (⟨0,0,0,⟨none,0,0⟩,⟨none,0,0⟩,0⟩:bU)) rfl;aI (x:=(⟨0,0,0,⟨none,0,0⟩,⟨none,0,0⟩,0⟩:bU)) hs lL rfl rfl (λ w3 hs=>?_))));refine ⟨_,?_,λ _ _ h=>h⟩;refine cB (nQ (aZ ahO hs (C66 K p room t _ (hh.ext hs.aF) oF.bl) (λ w4 he hs=>?_)));intro fy;refine ⟨vb ?_,by first | exact hs.aF | exact hs.drop.aF⟩;unfold Cg;rw [vu]
  rfl
 ·have hs:=hs.ext he;obtain ⟨ge,gf,rfl,_,_⟩:=hxv _ (uE _ hs.aF);refine bE rfl (bE rfl (aN hs mA (λ Lg w2 hs=>have hs:=hs.enc (cs':=Flat.enc (⟨0,0,0,⟨none,0,0⟩,⟨none,0,0⟩,0⟩:bU)) rfl;aI (x:=(⟨x.kind,x.a,x.b,ge,gf,x.to⟩:bU)) hs lL rfl rfl (λ w3 hs=>?_))));refine ⟨_,?_,λ _ _ h=>h⟩;refine cB (fP ?_);intro fy;refine ⟨vb ?_,by first | exact hs.aF | exact hs.drop.aF⟩;unfold Cg;rw [vu]
  rfl
theorem C68 (K:World→Prop) (p:Nat) (room:Int) (t:fK) (b:Nat) (w:World) (hh:Has (eF K p room t) w) (uE:∀ w',Ext w w'→K w') (oF:G9 t) (hc:Cell w b 0 (Oq 64)):CR 68 [(.pointer (some ⟨p,0,none⟩)),(.pointer (some ⟨b,0,none⟩))] w (λ v w'=>v = .bool (!Cg t)∧Ext w w'):=by
 have hs:=St.start w;refine ahF _ _ _ _ ?_;unfold S68;refine cD ae5 (hc.ext hs.aF) (gd (first:=[]) (cap:=[]) auP (C64 K p room t _ (hh.ext hs.aF) (λ w2 e=>uE _ (Ext.trans hs.aF e)) oF) ?_);rintro _ w1 ⟨rfl,he⟩;have hs:=hs.ext he;refine cB ?_;exact ⟨rfl,hs.aF⟩
theorem C136 (sv:Value) (ps:List Ptr) (g0:Nat) (first cap:List Value) (g:Nat→Bool) (w:World) (hL:eJ (λ _=>True) w sv ps) (vj:Plain PG g0) (l4:∀ (i:Nat) (s:Ptr) (w1:World),ps[i]? = some s→Ext w w1→Calls PG g0 (first++[Flat.val s]++cap).toArray w1 (pU λ v w2=>v = .bool (g i)∧Ext w1 w2)) (hn:ps.length≤1073741824):CR 136 [sv,(.func (.func g0) first.toArray cap.toArray)] w (λ v w'=>v = .int .i64 (uQ g (List.range ps.length))∧Ext w w'):=by
 have hs:=St.start w;refine ZC _ _ _ _ ?_;unfold S136;refine aJ ql (hL.ext hs.aF) ?_;refine ⟨λ m x w1=>∃ k:Nat,x = .int .i64 (k:Int)∧m=ps.length - k∧k≤ps.length∧(∀ y∈(List.range ps.length).take k,g y=false)∧St w bD [] w1,⟨_,0,rfl,rfl,Nat.zero_le _,by simp,hs⟩,?_⟩;rintro m _ w1 ⟨k,rfl,rfl,hk,fS,hs⟩ fy;refine aR (aC (λ gv=>?_) (λ gv=>?_))
 ·obtain ⟨jl,dD⟩:=gx (ps) (i:=((k:Int)).toNat) (by omega);refine aQ ql hL (by omega) dD (λ _ iN=>aD zD (iN.ext hs.aF) (gd vj (l4 k jl w1 dD hs.aF) ?_));rintro _ w2 ⟨rfl,he⟩;have hs:=hs.ext he;refine aX (λ eB=>?_) (λ eB=>?_)
  ·exact ⟨congrArg (Value.int .i64) (pj fS (Hf (by omega)) eB).symm,hs.aF⟩
  ·refine aO (by omega) ?_;exact ⟨_,by omega,k+1,rfl,rfl,by omega,eE fS (Hf (by omega)) eB,hs⟩
 ·exact ⟨congrArg (Value.int .i64) (kr (by rw [List.take_of_length_le (by rw [List.length_range]; omega)] at fS; exact fS)).symm,hs.aF⟩
theorem C67 (sv:Value) (ps:List Ptr) (g0:Nat) (first cap:List Value) (g:Nat→Bool) (w:World) (hL:eJ (λ _=>True) w sv ps) (vj:Plain PG g0) (l4:∀ (i:Nat) (s:Ptr) (w1:World),ps[i]? = some s→Ext w w1→Calls PG g0 (first++[Flat.val s]++cap).toArray w1 (pU λ v w2=>v = .bool (g i)∧Ext w1 w2)) (hn:ps.length≤1073741824):CR 67 [sv,(.func (.func g0) first.toArray cap.toArray)] w (λ v w'=>v = .bool ((List.range ps.length).any g)∧Ext w w'):=by
 have hs:=St.start w;refine ahE _ _ _ _ ?_;unfold S67;refine aZ anb hs (C136 _ ps g0 first cap g _ (hL.ext hs.aF) vj (λ i s2 w2 h e=>l4 i s2 w2 h (Ext.trans hs.aF e)) (by omega)) (λ w1 he hs=>dF ?_);exact ⟨vb (oa _ _),hs.aF⟩
theorem C18 (K:World→Prop) (p:Nat) (m:gE) (w:World) (hm:Has (eO K p m) w) (hw:K w) (uE:∀ w',Ext w w'→K w') (lZ:qx m):CR 18 [(.pointer (some ⟨p,0,none⟩))] w (λ v w'=>v=Flat.val (ke m)∧Ext w w'):=by
 obtain ⟨a,hr⟩:=eO.rd hm hw;have YE:=hr.b.cell (o:=8) rfl;have cm0:=hr.b.cell (o:=0) rfl;have W8:=hr.b.cell (o:=1) rfl;have cm3:=hr.b.cell (o:=3) rfl;have cm9:=hr.b.cell (o:=9) rfl;have BL:=hr.b.cell (o:=10) rfl;have Cw:=hr.b.cell (o:=11) rfl;have xQ:=hr.b.cell (o:=12) rfl;have E4:=hr.b.cell (o:=13) rfl;have yS:=hr.b.cell (o:=14) rfl;have E5:=hr.b.cell (o:=15) rfl;have hs:=St.start w;refine agV _ _ _ ?_;unfold S18;refine aN hs Dw (λ mc w1 hs=>yr hs abt rfl (λ Ja w2 hs=>aV hs ae5 (eI rfl) (rfl) (λ w3 hs=>aE (aA Dx (have hs:=hs.drew;cD bL (E4.ext hs.aF) (aE (aA nT (cD bL (yS.ext hs.aF) (aE (aA Dy (cD bL (E5.ext hs.aF) (pop (Kp _ _ _) ?_))))))))))))
 refine aN hs Dw (λ arw w4 hs=>?_);refine ⟨aG bL (E4.ext hs.aF),?_⟩;refine ⟨aG bL (yS.ext hs.aF),?_⟩;refine ⟨aG bL (E5.ext hs.aF),?_⟩;refine aI (x:=(⟨m.dT,m.fault,m.mO,false,false⟩:iz)) hs Ib rfl rfl (λ w5 hs=>?_);refine ⟨λ w'=>St w bD [cE arw (Flat.enc (⟨m.dT,m.fault,m.mO,uw m,false⟩:iz)),cE Ja [Oq 64],cE mc (Flat.enc (⟨0,0,0,false,false⟩:iz))] w',?_,?_⟩
 ·refine aE (aA nT (cD bL (yS.ext hs.aF) (aH (aC (λ iM=>?_) (λ iM=>?_)))))
  ·refine aE (aA jg (cD py (xQ.ext hs.aF) ?_));refine aZ auQ hs (C67 _ a.ps 68 [] [.pointer (some ⟨Ja,0,none⟩)] (λ i=>match m.l[i]? with | some t=>!Cg t | none=>false) _ (hr.ll.ext hs.aF) auR (λ i s2 w2 h e=>by
  obtain ⟨t,ht⟩:∃ t,m.l[i]? = some t:=⟨_,List.getElem?_eq_getElem (by have:=(List.getElem?_eq_some_iff.1 h).1; have:=hr.len; omega)⟩;rw [ht]
  exact C68 K s2.b m.room t Ja w2 ((hr.th i s2 t h ht).ext (Ext.trans hs.aF e)) (λ w3 e3=>uE _ (Ext.trans (Ext.trans hs.aF e) e3)) (lZ.th t (List.mem_of_getElem? ht)) ((hs.p1.hb.cell rfl).ext e)) (by have:=hr.len; have:=lZ.tl; omega)) (λ w6 he hs=>?_)
   refine cB (aA Ic (aV hs Tj (eI rfl) (rfl) (λ w7 hs=>?_)));have hs:=hs.enc (cs':=Flat.enc ({ (⟨m.dT,m.fault,m.mO,false,false⟩:iz) with done:=(!((List.range a.ps.length).any (λ i=>match m.l[i]? with | some t=>!Cg t | none=>false)))}:iz)) rfl;have hs:=hs.p2.p2.p2;have hdm:uw m = !((List.range a.ps.length).any (λ i=>match m.l[i]? with | some t=>!Cg t | none=>false)):=by unfold uw; rw [decide_eq_true iM,hr.len]; rfl
   rw [hdm];exact hs
  ·refine aA Ic (aV hs Tj (eI rfl) (rfl) (λ w8 hs=>?_));have hs:=hs.enc (cs':=Flat.enc ({ (⟨m.dT,m.fault,m.mO,false,false⟩:iz) with done:=false}:iz)) rfl;have hs:=hs.p2.p2.p2;have hdm:uw m=false:=by unfold uw; rw [decide_eq_false iM]; rfl
   rw [hdm];exact hs
 ·intro w9 hs fy;refine ⟨λ w'=>St w bD [cE arw (Flat.enc (ke m)),cE mc (Flat.enc (⟨0,0,0,false,false⟩:iz))] w',?_,?_⟩
  ·refine aE (aA nT (cD bL (yS.ext hs.aF) (aH (aC (λ tZ=>?_) (λ tZ=>?_)))))
   ·refine aA Ic (aB (v:=.bool (((⟨m.dT,m.fault,m.mO,uw m,false⟩:iz)).done)) Tj hs.hb rfl (cB (aX (λ j0=>?_) (λ j0=>?_))))
    ·refine cZ HL hs (C16 K p m _ (hm.ext hs.aF) (uE _ hs.aF) (λ w2 e=>uE _ (Ext.trans hs.aF e)) lZ) (λ x45 pS bY hs=>?_);obtain ⟨ayD,akl,akm,_⟩:=(hs).dl;refine aJ mL akl ?_;rw [akm];refine aH (aA Ie (aV hs.p1 Tj (eI rfl) (rfl) (λ sU hs=>?_)));have hs:=hs.enc (cs':=Flat.enc ({ (⟨m.dT,m.fault,m.mO,uw m,false⟩:iz) with stuck:=(decide (((ft m).length:Int)=0))}:iz)) rfl;have hs:=((hs.p1.drop.p1.drop).p1).p1;have hsm:yU m=(decide (((ft m).length:Int)=0)):=by unfold yU; rw [decide_eq_true tZ,show uw m=false from by simpa using j0]; rfl
     unfold ke;rw [hsm];exact hs
    ·refine aA Ie (aV hs Tj (eI rfl) (rfl) (λ vm hs=>?_));have hs:=hs.enc (cs':=Flat.enc ({ (⟨m.dT,m.fault,m.mO,uw m,false⟩:iz) with stuck:=false}:iz)) rfl;have hs:=(hs.p1.drop.p1).p1;have hsm:yU m=false:=by unfold yU; rw [show uw m=true from by simpa using j0]; simp
     unfold ke;rw [hsm];exact hs
   ·refine aA Ie (aV hs Tj (eI rfl) (rfl) (λ vn hs=>?_));have hs:=hs.enc (cs':=Flat.enc ({ (⟨m.dT,m.fault,m.mO,uw m,false⟩:iz) with stuck:=false}:iz)) rfl;have hs:=(hs.p1.drop.p1).p1;have hsm:yU m=false:=by unfold yU; rw [decide_eq_false tZ]; rfl
    unfold ke;rw [hsm];exact hs
  ·intro sm hs jB;refine aD Ib hs.At (aI (x:=(ke m)) hs.p1 Ib rfl rfl (λ v7 hs=>aD Ib hs.At ?_));have hs:=((hs.drop)).drop;exact ⟨rfl,hs.aF⟩
theorem C49 (K:World→Prop) (p:Nat) (m:gE) (w:World) (hm:Has (eO K p m) w) (hw:K w) (uE:∀ w',Ext w w'→K w') (lZ:qx m) (Qq:m.u.cC.length≤1000) (hcz:∀ l∈m.u.cC,l.length≤1000) (gn:0≤m.u.stays∧m.u.stays≤m.mem.l.length):CR 49 [(.pointer (some ⟨p,0,none⟩))] w (λ v w'=>lY (bK v (C0 m)) w w'):=by
 obtain ⟨a,hr⟩:=eO.rd hm hw;have YE:=hr.b.cell (o:=8) rfl;have cm0:=hr.b.cell (o:=0) rfl;have W8:=hr.b.cell (o:=1) rfl;have cm3:=hr.b.cell (o:=3) rfl;have cm9:=hr.b.cell (o:=9) rfl;have BL:=hr.b.cell (o:=10) rfl;have Cw:=hr.b.cell (o:=11) rfl;have xQ:=hr.b.cell (o:=12) rfl;have E4:=hr.b.cell (o:=13) rfl;have yS:=hr.b.cell (o:=14) rfl;have E5:=hr.b.cell (o:=15) rfl;have ayE:=hr.uk.cl _ hw;have hs:=St.start w;refine ahm _ _ _ ?_;unfold S49;refine aE (aA tL (aA xb (cD RQ (YE.ext hs.aF) ?_)));obtain ⟨arx,agn,ago⟩:=(ayE).open;have hn130:=ago.1;refine aJ FJ (agn.ext hs.aF) ?_
 have hs:=hs.fU (α:=Bool);refine ⟨λ mm o x w1=>∃ k:Nat,x = .int .i64 (k:Int)∧mm=m.u.cC.length - k∧k≤m.u.cC.length∧St w bD [bK o ((m.u.cC.take k).map (yV m))] w1,⟨_,0,rfl,rfl,Nat.zero_le _,hs⟩,?_⟩;rintro mm fX _ w1 ⟨k,rfl,rfl,hk,hs⟩ fy;refine aR (aC (λ jm=>?_) (λ jm=>?_))
 ·refine ⟨λ o w'=>St w bD [bK o ((m.u.cC.take (k+1)).map (yV m))] w',?_,?_⟩
  ·obtain ⟨GS,kR⟩:=gx arx (i:=((k:Int)).toNat) (by omega);obtain ⟨mF,kS⟩:=gx (m.u.cC) (i:=((k:Int)).toNat) (by omega);have Vl:DL w (Flat.val GS) mF:=ago.2 _ _ _ kR kS;refine aQ FJ agn (by omega) kR (λ _ tY=>aD xG (tY.ext hs.aF) ?_);have ary:=DL.flat (Vl);refine aE (aA tL (aA lK (have hs:=hs.drew;cD bL (W8.ext hs.aF) (cZ ag5 hs (C22 K p m _ (hm.ext hs.aF) (uE _ hs.aF) (λ w2 e=>uE _ (Ext.trans hs.aF e)) lZ) (λ Vm w2 bY hs=>?_)))));refine ⟨aG bL (W8.ext hs.aF),?_⟩;refine kQ dY (hs).fB (by omega) (by omega) (λ Qe Bu=>aZ aez hs (C110 _ _ mF (m.mem.l.take (m.u.stays).toNat) _ (ary.ext hs.aF) (Bu _ (hs).fB) (by have:=hcz _ (List.mem_of_getElem? kS); omega)) (λ w3 he hs=>bE rfl (bE rfl (aH (aC (λ nB=>?_) (λ nB=>?_))))))
   ·refine cQ (bW ([decide ((runM mF (m.mem.l.take m.u.stays.toNat)).1≠0)]) hs xW rfl rfl (eI rfl) (λ afx w4 hs=>?_));have ET:=(hs).fB;refine cN hs.p2 xW ET (by simp; omega) (by decide) (λ afJ w5 hs=>?_);have hs:=hs.p1.drop.p1.drop;rw [← iP (k:=k) kS];have Sk:yV m mF=decide ((runM mF (m.mem.l.take m.u.stays.toNat)).1≠0):=by unfold yV; rw [decide_eq_true nB]; rfl
    rw [Sk];exact hs
   ·refine bW ([false]) hs xW rfl rfl (eI rfl) (λ atG w6 hs=>?_);have Xp:=(hs).fB;refine cN hs.p2 xW Xp (by simp; omega) (by decide) (λ atH w7 hs=>?_);have hs:=hs.p1.drop.p1.drop;rw [← iP (k:=k) kS];have Sk:yV m mF=false:=by unfold yV; rw [decide_eq_false nB]; rfl
    rw [Sk];exact hs
  ·intro nk w8 hs jB;refine aO (by omega) ?_;exact ⟨_,by omega,k+1,rfl,rfl,by omega,hs⟩
 ·rw [List.take_of_length_le (by omega)] at hs;exact hs.fresh
set_option maxHeartbeats 1000000 in
theorem C19 (K:World→Prop) (p:Nat) (m:gE) (w:World) (hm:Has (eO K p m) w) (hw:K w) (uE:∀ w',Ext w w'→K w') (lZ:qx m) (tB:MB m.mem 1000000) (akn:m.u.locks≤1000):CR 19 [(.pointer (some ⟨p,0,none⟩))] w (λ v w'=>∃ b,v = .pointer (some ⟨b,0,none⟩)∧lY (eO K b m) w w'):=by
 obtain ⟨a,hr⟩:=eO.rd hm hw;have YE:=hr.b.cell (o:=8) rfl;have cm0:=hr.b.cell (o:=0) rfl;have W8:=hr.b.cell (o:=1) rfl;have cm3:=hr.b.cell (o:=3) rfl;have cm9:=hr.b.cell (o:=9) rfl;have BL:=hr.b.cell (o:=10) rfl;have Cw:=hr.b.cell (o:=11) rfl;have xQ:=hr.b.cell (o:=12) rfl;have E4:=hr.b.cell (o:=13) rfl;have yS:=hr.b.cell (o:=14) rfl;have E5:=hr.b.cell (o:=15) rfl;have hrl0:=hr.len;have htl0:=lZ.tl;obtain ⟨ovs,hov⟩:=((hr.uk.mem _ hw).1).fR;obtain ⟨fvs,hfv⟩:=((hr.uk.mem _ hw).2).fR;have zw:=hr.c0;have Cs:=hr.c1;rw [hov] at zw;rw [hfv] at Cs;have hs:=St.start w;refine agW _ _ _ ?_;unfold S19;refine aE (qV ae4 hr.b rfl (aN hs abr (λ arz w1 hs=>pq (vs:=jX a m) hs ae4 rfl (by simp) (Ow hr.lk.one hr.ll.one) (λ w2 hs=>have hs:=hs.enc (cs':=jX a m) rfl;aE (aA jH (have hs:=hs.drew;cD sd (BL.ext hs.aF) (aE (aA nS (cD eu (Cw.ext hs.aF) (eD auS (C69 a.q m.mem ovs fvs _ (zw.ext hs.aF) (Cs.ext hs.aF) (hr.mem.ext hs.aF) lZ.mem tB) ?_))))))))))
 rintro _ w3 ⟨b2,rfl,bY⟩;have hs:=hs.made bY;refine ⟨aG eu (Cw.ext hs.aF),?_⟩;refine cZ zp hs (C70 _ _ _ (hr.lk.ext hs.aF) (by have akh:=lZ.lk; have:=akn; omega)) (λ x19 w4 bY hs=>aA jH (aV hs.p2 sd (eI rfl) (rfl) (λ w5 hs=>aA nS (aV hs eu (eI rfl) ((hs.p1).fB.one) (λ w6 hs=>aA jg (aV hs py (eI rfl) (rfl) (λ w7 hs=>aE (aA jg (cD py (xQ.ext hs.aF) (aJ ql (hr.ll.ext hs.aF) ?_))))))))));obtain ⟨IJ,rfl⟩:=(hs.p1).fR;obtain ⟨lk2,ayG⟩:∃ l,l=IJ:=⟨_,rfl⟩;subst ayG;have hs:=((((((hs.KD (H:=qc K m.room)).fU (α:=Ptr)).p4).p4).p3).p3).p4
 refine ⟨λ mm x w'=>∃ (j:Nat) (Xm:Value) (ps2:List Ptr),x = .int .i64 (j:Int)∧mm=a.ps.length - j∧j≤a.ps.length∧St w bD [cE arz (jX {a with q:=b2,lk:=Flat.val lk2,ll:=Xm} m),bK Xm ps2,iy (qc K m.room) ps2 (m.l.take j),bK (Flat.val lk2) m.locks,fW b2 (Flat.val ovs) (Flat.val fvs) m.mem] w',⟨_,0,.slice none 0 0,[],rfl,rfl,Nat.zero_le _,hs⟩,?_⟩;rintro mm _ w8 ⟨j,Xm,ps2,rfl,rfl,hj1,hs⟩ fy;refine aR (aC (λ Vk=>?_) (λ Vk=>?_))
 ·obtain ⟨D2,lE⟩:=gx (a.ps) (i:=((j:Int)).toNat) (by omega);refine aQ ql hr.ll (by omega) lE (λ _ oe=>aD zD (oe.ext hs.aF) ?_);obtain ⟨t,ht⟩:∃ t,m.l[j]? = some t:=⟨_,List.getElem?_eq_getElem (by have:=hr.len; omega)⟩;have Cv:=List.mem_of_getElem? ht;have oF:=lZ.th t Cv;have yA:=oF.bl;have arc:=oF.rg;have hcn1:=oF.cn;have YF:=oF.code.rb;have hcb:=oF.code.cb;obtain ⟨bp,gl,rg,cn,qN,ox,hB,Bw,YD⟩:=eF.rd (hr.th j _ _ lE ht);obtain ⟨ts0,hts⟩:=id qN;have W7:=ox.cell (o:=0) rfl;have ct5:=ox.cell (o:=5) rfl;have ct6:=ox.cell (o:=6) rfl;refine aE (qV ae6 (tH.ext ox hs.aF) rfl (aN hs abu (λ ako w9 hs=>pq (vs:=[.pointer (some ⟨bp,0,none⟩),.int .i64 t.code.aK,.int .i64 t.code.counts,gl,.int .i64 t.at_,rg,cn,.int .i64 t.fault,.int .i64 t.e,.int .i64 t.f]) hs ae6 rfl (by simp) (Ox ((hts _ hw).1).one Bw.one YD.one) (λ pS hs=>have hs:=hs.enc (cs':=[.pointer (some ⟨bp,0,none⟩),.int .i64 t.code.aK,.int .i64 t.code.counts,gl,.int .i64 t.at_,rg,cn,.int .i64 t.fault,.int .i64 t.e,.int .i64 t.f]) rfl;aE (aA mW (have hs:=hs.drew;cD qW (W7.ext hs.aF) (aE (aA pz (cD eu (ct5.ext hs.aF) (aE (aA vQ (cD eu (ct6.ext hs.aF) ?_))))))))))))
  refine eD auT (C71 bp m.room t.buf _ (hB.ext hs.aF) (by omega)) ?_;rintro _ sU ⟨bq,rfl,bY⟩;have hs:=hs.made bY;refine ⟨aG eu (ct5.ext hs.aF),?_⟩;refine ⟨aG eu (ct6.ext hs.aF),?_⟩;refine cZ zp hs (C70 _ _ _ (Bw.ext hs.aF) (by have akh:=lZ.lk; have:=akn; omega)) (λ x44 vm bY hs=>?_);refine ⟨aG eu (ct6.ext hs.aF),?_⟩;refine cZ zp hs (C70 _ _ _ (YD.ext hs.aF) (by have akh:=lZ.lk; have:=akn; omega)) (λ x49 vn bY hs=>aA mW (aV hs.p3 qW (eI rfl) (rfl) (λ sm hs=>aA pz (aV hs eu (eI rfl) ((hs.p2).fB.one) (λ v7 hs=>aA vQ (aV hs eu (eI rfl) ((hs.p1).fB.one) (λ yZ hs=>aA jg ?_)))))))
  have vj:=(hs.p6).lj;refine aB py hs.p4.hb rfl (bW ([(⟨ako⟩:Ptr)]) hs ql rfl rfl (eI rfl) (λ aqQ Cp hs=>?_));have akp:=(hs).fB;refine cN hs.p6 ql akp (by rw [List.length_take] at vj; have:=lZ.tl; simp; omega) (by decide) (λ arB Iv hs=>have hs:=hs.p1.drop;aA jg (aV hs.p5 py (eI rfl) ((hs).fB.one) (λ Jy hs=>aO (by omega) ?_)));have hs:=eF.shut (room:=m.room) (t:=t) qN hs.p3.p4.p5.p5;have vj:=(hs.p3).lj;have hs:=(((((St.DQ (H:=qc K m.room) (p:=⟨ako⟩) (x:=t) hs.p3).p4).p4).p2).p4).p4;exact ⟨_,by omega,j+1,arB,ps2++[⟨ako⟩],rfl,rfl,by omega,by rw [← gX (k:=j) ht]; exact hs⟩
 ·have hs:=hs.p2.p2.p3.p4.p4;rw [List.take_of_length_le (by have:=hr.len; omega)] at hs;rw [← hov,← hfv] at hs;exact ⟨arz,rfl,(eO.shut (m:=m) (a:={a with q:=b2,lk:=Flat.val lk2,ll:=Xm,ps:=ps2}) ⟨hr.uk.ln,hr.uk.cl,hr.uk.rc,hr.uk.mem⟩ hs).fresh⟩
def BO (s:ByteArray) (a:Int) (t:ByteArray):Bool:=decide (a+t.size≤s.size) && decide (s.extract a.toNat (a+t.size).toNat=t)
def whF (p:UInt8→Bool) (s:ByteArray):Nat→Nat→Nat
 | 0,a=>a
 | n+1,a=>match (lh s)[a]? with
  | some c=>if p c=true then whF p s n (a+1) else a
  | none=>a
def vH (p:UInt8→Bool) (s:ByteArray) (a:Nat):Nat:=whF p s (s.size - a) a
section
variable {p:UInt8→Bool} {s:ByteArray} {k:Nat} {c:UInt8}
theorem Jb (h:s.size≤k):vH p s k=k:=by unfold vH; rw [show s.size - k=0 from by omega]; rfl
theorem qe (h:(lh s)[k]? = some c):k<s.size:=by have:=(List.getElem?_eq_some_iff.1 h).1; rw [ed] at this; exact this
theorem E7 (h:(lh s)[k]? = some c) (hp:p c=true):vH p s k=vH p s (k+1):=by
 have hk:=qe h
 unfold vH
 rw [show s.size - k=(s.size - (k+1))+1 from by omega,whF,h]
 dsimp only
 rw [if_pos hp]
theorem E8 (h:(lh s)[k]? = some c) (hp:p c=false):vH p s k=k:=by
 have hk:=qe h
 unfold vH
 rw [show s.size - k=(s.size - (k+1))+1 from by omega,whF,h]
 dsimp only
 rw [hp]; rfl
end
def tz (c:UInt8):Bool:=decide (c.toNat=32∨c.toNat=9∨c.toNat=10∨c.toNat=13)
def yk (c:UInt8):Bool:=decide (c.toNat≠10)
def rL (c:UInt8):Bool:=jw c.toNat || nu c.toNat
def vE (c:UInt8):Bool:=nu c.toNat
def kL (s:ByteArray):Nat→Nat→Option Nat
 | 0,_=>none
 | n+1,a=>match (lh s)[a]? with
  | none=>some a
  | some c=>if tz c=true then kL s n (a+1) else if BO s a ⟨#[47,47]⟩=true then kL s n (vH yk s a) else some a
theorem Oy {s:ByteArray} {n a r:Nat} (h:kL s n a=some r):∃ k,n=k+1:=by
 cases n with
 | zero=>cases h
 | succ k=>exact ⟨k,rfl⟩
section
variable {s:ByteArray} {n a r:Nat} {c:UInt8}
theorem SB (h:kL s (n+1) a=some r) (ha:s.size≤a):r=a:=by
 unfold kL at h; rw [List.getElem?_eq_none (by rw [ed]; exact ha)] at h; exact (Option.some.inj h).symm
theorem Ch (h:kL s (n+1) a=some r) (hc:(lh s)[a]? = some c) (hb:tz c=true):kL s n (a+1)=some r:=by
 unfold kL at h; rw [hc] at h; dsimp only at h; rw [if_pos hb] at h; exact h
theorem Hg (h:kL s (n+1) a=some r) (hc:(lh s)[a]? = some c) (hb:tz c=false) (hr:BO s a ⟨#[47,47]⟩=true):kL s n (vH yk s a)=some r:=by
 unfold kL at h; rw [hc] at h; dsimp only at h; rw [if_neg (by rw [hb]; simp),if_pos hr] at h; exact h
theorem LX (h:kL s (n+1) a=some r) (hc:(lh s)[a]? = some c) (hb:tz c=false) (hr:BO s a ⟨#[47,47]⟩=false):r=a:=by
 unfold kL at h; rw [hc] at h; dsimp only at h; rw [if_neg (by rw [hb]; simp),if_neg (by rw [hr]; simp)] at h; exact (Option.some.inj h).symm
theorem Xq:∀ (n a:Nat) (p:UInt8→Bool),a≤whF p s n a∧whF p s n a≤max a s.size
 | 0,a,p=>⟨Nat.le_refl _,by unfold whF; omega⟩
 | n+1,a,p=>by
  unfold whF
  cases h:(lh s)[a]? with
  | none=>exact ⟨Nat.le_refl _,by dsimp only; omega⟩
  | some c=>
   dsimp only
   split
   ·have:=Xq n (a+1) p; have:=qe h; omega
   ·exact ⟨Nat.le_refl _,by omega⟩
theorem Oz (p:UInt8→Bool):a≤vH p s a∧vH p s a≤max a s.size:=Xq _ _ _
theorem AI:∀ {n a r:Nat},kL s n a=some r→a≤s.size→a≤r∧r≤s.size
 | 0,_,_,h,_=>by cases h
 | n+1,a,r,h,ha=>by
  cases hc:(lh s)[a]? with
  | none=>unfold kL at h; rw [hc] at h; obtain rfl:=Option.some.inj h; omega
  | some c=>
   have hk:=qe hc
   cases hb:tz c with
   | true=>have:=AI (Ch h hc hb) (by omega); omega
   | false=>
    cases hr:BO s a ⟨#[47,47]⟩ with
    | true=>have h1:=Oz (s:=s) (a:=a) yk; have:=AI (Hg h hc hb hr) (by omega); omega
    | false=>have:=LX h hc hb hr; omega
end
def Cy:List ByteArray:=[⟨#[61,61]⟩,⟨#[33,61]⟩,⟨#[60,61]⟩,⟨#[38,38]⟩,⟨#[124,124]⟩]
def pQ (s:ByteArray) (a:Nat) (c:UInt8):Int:=if Cy.any (BO s a)=true then 2 else if (lh (ByteArray.mk #[40,41,123,125,59,44,61,60,33,43,45,42,47,37])).any (λ x=>decide ((x.toNat:Int)=c.toNat))=true then 1 else 0
def sH (l:List bF) (i:Int) (t:ByteArray):Bool:=decide (0≤i) && (match l[i.toNat]? with | some x=>decide (x.text=t) && decide (x.kind≠2) && decide (1≤x.kind) && decide (x.kind≤3) | none=>false)
def mP (l:List bF) (i:Int):Int:=match (if 0≤i then l[i.toNat]? else none) with
 | some x=>x.at_
 | none=>match l.getLast? with
  | some x=>x.at_+x.text.size
  | none=>0
theorem adB:∀ t∈Cy,t.size≤1000000:=by decide
theorem rM {l:List bF} {i:Int} {t:ByteArray} (h:sH l i t=true):0≤i∧i<l.length:=by
 unfold sH at h
 rw [Bool.and_eq_true,decide_eq_true_eq] at h
 refine ⟨h.1,?_⟩
 cases hx:l[i.toNat]? with
 | none=>rw [hx] at h; cases h.2
 | some x=>have:=(List.getElem?_eq_some_iff.1 hx).1; omega
theorem C232 (s t:ByteArray) (i:Int) (w:World) (hz:s.size≤1000000) (hz2:t.size≤1000000) (h0:0≤i∧i≤2000000):CR 232 [.string s,.int .i64 i,.string t] w (λ v w'=>v = .bool (BO s i t)∧Ext w w'):=by
 have hs:=St.start w;refine aaN _ _ _ _ _ ?_;unfold S232;refine ⟨λ jv w'=>jv = .bool (BO s i t)∧w=w',?_,?_⟩
 ·refine gg gI (aO (by omega) (gg gI (j7 (aC (λ kJ=>?_) (λ kJ=>?_)))))
  ·refine gg gI (aO (by omega) (KA gI (by omega) (by omega) (by omega) (tX ?_)));exact ⟨vb (by unfold BO; grind),rfl⟩
  ·exact ⟨vb (by unfold BO; grind),rfl⟩
 ·rintro _ w1 ⟨rfl,hw⟩ fy;subst hw;exact ⟨rfl,hs.aF⟩
theorem C209 (s:ByteArray) (i N r:Nat) (w:World) (hz:s.size≤4000) (h0:i≤s.size) (hr:kL s N i=some r):CR 209 [.string s,.int .i64 (i:Int)] w (λ v w'=>v = .int .i64 (r:Int)∧Ext w w'):=by
 have hz0:=hz;replace hz:s.size≤1000000:=by omega
 have hs:=St.start w;refine aas _ _ _ _ ?_;unfold S209;refine ⟨λ mm x w1=>∃ a:Nat,x = .int .i64 (a:Int)∧a≤s.size∧kL s mm a=some r∧St w bD [] w1,⟨N,i,rfl,h0,hr,hs⟩,?_⟩;rintro mm _ w1 ⟨a,rfl,ha,hp,hs⟩ fy;obtain ⟨k,rfl⟩:=Oy hp;refine gg gI (aR (aC (λ gv=>?_) (λ gv=>?_)))
 ·obtain ⟨arC,E9⟩:∃ xx,(lh (s))[((a:Int)).toNat]? = some xx:=⟨_,List.getElem?_eq_getElem (by rw [ed]; omega)⟩;refine lO gI (by omega) E9 ?_;refine ⟨λ jv w'=>jv = .bool (tz arC)∧w1=w',?_,?_⟩
  ·refine n7 (aC (λ gQ=>?_) (λ gQ=>?_))
   ·exact ⟨vb (by unfold tz; first | exact (decide_eq_true (by omega)).symm | exact decide_eq_decide.2 (by omega)),rfl⟩
   ·refine n7 (aC (λ me=>?_) (λ me=>?_))
    ·exact ⟨vb (by unfold tz; first | exact (decide_eq_true (by omega)).symm | exact decide_eq_decide.2 (by omega)),rfl⟩
    ·refine n7 (aC (λ gu=>?_) (λ gu=>?_))
     ·exact ⟨vb (by unfold tz; first | exact (decide_eq_true (by omega)).symm | exact decide_eq_decide.2 (by omega)),rfl⟩
     ·refine n7 ?_;exact ⟨vb (by unfold tz; first | exact (decide_eq_true (by omega)).symm | exact decide_eq_decide.2 (by omega)),rfl⟩
  ·rintro _ w2 ⟨rfl,hw⟩ jB;subst hw;refine aX (λ qq=>?_) (λ qq=>?_)
   ·refine aO (by omega) ?_;have hal:=qe E9;exact ⟨k,by omega,a+1,rfl,by omega,Ch hp E9 qq,hs⟩
   ·refine aZ aeW hs (C232 s (ByteArray.mk #[47,47]) (a:Int) _ hz (by decide) (by omega)) (λ w3 he hs=>aX (λ lR=>?_) (λ lR=>?_))
    ·refine ⟨λ mm x w1=>∃ j:Nat,x = .int .i64 (j:Int)∧mm=s.size - j∧a≤j∧j≤s.size∧vH yk s a=vH yk s j∧St w bD [] w1,⟨_,a,rfl,rfl,Nat.le_refl _,ha,rfl,hs⟩,?_⟩;rintro mm _ w4 ⟨j,rfl,rfl,haj,hj,gn,hs⟩ oS;refine ⟨λ jv w'=>jv = .bool ((match (lh s)[j]? with | some c=>yk c | none=>false))∧w4=w',?_,?_⟩
     ·refine gg gI (aR (aC (λ jx=>?_) (λ jx=>?_)))
      ·obtain ⟨qu,qa⟩:∃ xx,(lh (s))[((j:Int)).toNat]? = some xx:=⟨_,List.getElem?_eq_getElem (by rw [ed]; omega)⟩;refine lO gI (by omega) qa (UE ?_);exact ⟨vb (by first | (rw [show (lh s)[j]? = some qu from qa]; unfold yk; exact decide_eq_decide.2 (by omega)) | (rw [List.getElem?_eq_none (by rw [ed]; omega)])),rfl⟩
      ·exact ⟨vb (by first | (rw [show (lh s)[j]? = some qu from qa]; unfold yk; exact decide_eq_decide.2 (by omega)) | (rw [List.getElem?_eq_none (by rw [ed]; omega)])),rfl⟩
     ·rintro _ w5 ⟨rfl,hw⟩ GQ;subst hw;refine aX (λ j0=>?_) (λ j0=>?_)
      ·refine aO (by omega) ?_
       have QT:∃ c,(lh s)[j]? = some c∧yk c=true:=by
        cases hc:(lh s)[j]? with
        | none=>rw [hc] at j0; cases j0
        | some c=>rw [hc] at j0; exact ⟨c,rfl,j0⟩
       obtain ⟨cj,Cz,SC⟩:=QT;have hjl:=qe Cz;exact ⟨_,by omega,j+1,rfl,rfl,by omega,by omega,gn.trans (E7 Cz SC),hs⟩
      ·have ayH:vH yk s j=j:=by
        by_cases hjs:j<s.size
        ·obtain ⟨cj,QT⟩:∃ c,(lh s)[j]? = some c:=⟨_,List.getElem?_eq_getElem (by rw [ed]; exact hjs)⟩;rw [QT] at j0; exact E8 QT j0
        ·exact Jb (by omega)
       have YO:=Hg hp E9 qq lR;rw [gn,ayH] at YO;exact ⟨k,by omega,j,rfl,hj,YO,hs⟩
    ·have hx:=LX hp E9 qq (by exact_mod_cast lR);subst hx;exact ⟨rfl,hs.aF⟩
 ·have hx:=SB hp (by omega);subst hx;exact ⟨rfl,hs.aF⟩
theorem C210 (s:ByteArray) (i:Nat) (c:UInt8) (w:World) (hz:s.size≤1000000) (hc:(lh s)[i]? = some c):CR 210 [.string s,.int .i64 (i:Int)] w (λ v w'=>v = .int .i64 (pQ s i c)∧Ext w w'):=by
 have hi:=qe hc;have hs:=St.start w;refine aat _ _ _ _ ?_;unfold S210;refine bW (Cy) hs mV rfl rfl (eI rfl) (λ aoT w1 hs=>?_);refine ⟨λ mm x w1=>∃ k:Nat,x = .int .i64 (k:Int)∧mm=Cy.length - k∧k≤Cy.length∧(∀ y∈Cy.take k,BO s i y=false)∧St w bD [bK aoT Cy] w1,⟨_,0,rfl,rfl,Nat.zero_le _,by simp,hs⟩,?_⟩;rintro mm _ w2 ⟨k,rfl,rfl,hk,fS,hs⟩ fy;refine aJ mV (hs).fB ?_;have M7:Cy.length=5:=rfl;refine aR (aC (λ kJ=>?_) (λ kJ=>?_))
 ·obtain ⟨afH,o7⟩:=gx (Cy) (i:=((k:Int)).toNat) (by omega);refine dR hs mV (by omega) (by omega) (λ _ Lp=>ga hs j8 Lp o7 (aZ aeW hs (C232 s afH (i:Int) _ hz (adB _ (List.mem_of_getElem? o7)) (by omega)) (λ w3 he hs=>aX (λ iM=>?_) (λ iM=>?_))))
  ·exact ⟨congrArg (Value.int .i64) (by unfold pQ; rw [if_pos (jC o7 iM)]),hs.drop.aF⟩
  ·refine aO (by omega) ?_;exact ⟨_,by omega,k+1,rfl,rfl,by omega,eE fS o7 iM,hs⟩
 ·have hs:=(hs).drop;refine ⟨λ mm x w1=>∃ j:Nat,x = .int .i64 (j:Int)∧mm=(ByteArray.mk #[40,41,123,125,59,44,61,60,33,43,45,42,47,37]).size - j∧j≤(ByteArray.mk #[40,41,123,125,59,44,61,60,33,43,45,42,47,37]).size∧(∀ y∈(lh (ByteArray.mk #[40,41,123,125,59,44,61,60,33,43,45,42,47,37])).take j,decide ((y.toNat:Int)=c.toNat)=false)∧St w bD [] w1,⟨_,0,rfl,rfl,Nat.zero_le _,by simp,hs⟩,?_⟩;rintro mm _ w4 ⟨j,rfl,rfl,hj,Eg,hs⟩ jB;refine gg gI ?_;have YC:(ByteArray.mk #[40,41,123,125,59,44,61,60,33,43,45,42,47,37]).size=14:=rfl;refine aR (aC (λ qq=>?_) (λ qq=>?_))
  ·obtain ⟨aqs,BC⟩:∃ xx,(lh ((ByteArray.mk #[40,41,123,125,59,44,61,60,33,43,45,42,47,37])))[((j:Int)).toNat]? = some xx:=⟨_,List.getElem?_eq_getElem (by rw [ed]; omega)⟩;refine lO gI (by omega) BC ?_;obtain ⟨vt,tj⟩:∃ xx,(lh (s))[((i:Int)).toNat]? = some xx:=⟨_,List.getElem?_eq_getElem (by rw [ed]; omega)⟩;refine lO gI (by omega) tj ?_;obtain rfl:=Option.some.inj (tj.symm.trans hc);refine n7 (aC (λ jx=>?_) (λ jx=>?_))
   ·have hs:=hs.drew;have hn2:Cy.any (BO s i)=false:=iF (by rw [List.take_of_length_le (by omega)] at fS; exact fS);exact ⟨congrArg (Value.int .i64) (by unfold pQ; rw [if_neg (by rw [hn2]; simp),if_pos (jC BC (decide_eq_true jx))]),hs.aF⟩
   ·refine aO (by omega) ?_;have hs:=hs.drew;exact ⟨_,by omega,j+1,rfl,rfl,by omega,eE Eg BC (decide_eq_false jx),hs⟩
  ·have hn2:Cy.any (BO s i)=false:=iF (by rw [List.take_of_length_le (by omega)] at fS; exact fS);have hn3:=iF (g:=λ x:UInt8=>decide ((x.toNat:Int)=c.toNat)) (by rw [List.take_of_length_le (by rw [ed]; omega)] at Eg; exact Eg);exact ⟨congrArg (Value.int .i64) (by unfold pQ; rw [if_neg (by rw [hn2]; simp),if_neg (by rw [hn3]; simp)]),hs.aF⟩
theorem C211 (lv:Value) (l:List bF) (i:Int) (t:ByteArray) (w:World) (hL:eJ (λ _=>True) w lv l) (hn:l.length≤1000000):CR 211 [lv,.int .i64 i,.string t] w (λ v w'=>v = .bool (sH l i t)∧Ext w w'):=by
 have hs:=St.start w;refine aau _ _ _ _ _ ?_;unfold S211;refine ⟨λ jv w'=>jv = .bool (sH l i t)∧w=w',?_,?_⟩
 ·refine dF (aC (λ gp=>?_) (λ gp=>?_))
  ·refine aJ fD (hL.ext hs.aF) (aR (aC (λ kJ=>?_) (λ kJ=>?_)))
   ·obtain ⟨ri,jn⟩:=gx (l) (i:=(i).toNat) (by omega);refine aQ fD hL (by omega) jn (λ _ wc=>bT (ri).text m6 wc rfl rfl (λ _ jL=>aD j8 (jL.ext hs.aF) (tX (aC (λ iM=>?_) (λ iM=>?_)))))
    ·refine aQ fD hL (by omega) jn (λ _ we=>bT (ri).kind lf we rfl rfl (λ _ wj=>aD bL (wj.ext hs.aF) (cQ (aC (λ nD=>?_) (λ nD=>?_)))))
     ·refine aQ fD hL (by omega) jn (λ _ zR=>bT (ri).kind lf zR rfl rfl (λ _ ua=>aD bL (ua.ext hs.aF) (dF (aC (λ nd=>?_) (λ nd=>?_)))))
      ·refine aQ fD hL (by omega) jn (λ _ yg=>bT (ri).kind lf yg rfl rfl (λ _ AJ=>aD bL (AJ.ext hs.aF) (j7 ?_)));exact ⟨vb (by unfold sH; first | (rw [jn]; grind) | (rw [decide_eq_false (by omega)]; rfl) | (rw [List.getElem?_eq_none (by omega)]; simp)),rfl⟩
      ·exact ⟨vb (by unfold sH; first | (rw [jn]; grind) | (rw [decide_eq_false (by omega)]; rfl) | (rw [List.getElem?_eq_none (by omega)]; simp)),rfl⟩
     ·exact ⟨vb (by unfold sH; first | (rw [jn]; grind) | (rw [decide_eq_false (by omega)]; rfl) | (rw [List.getElem?_eq_none (by omega)]; simp)),rfl⟩
    ·exact ⟨vb (by unfold sH; first | (rw [jn]; grind) | (rw [decide_eq_false (by omega)]; rfl) | (rw [List.getElem?_eq_none (by omega)]; simp)),rfl⟩
   ·exact ⟨vb (by unfold sH; first | (rw [jn]; grind) | (rw [decide_eq_false (by omega)]; rfl) | (rw [List.getElem?_eq_none (by omega)]; simp)),rfl⟩
  ·exact ⟨vb (by unfold sH; first | (rw [jn]; grind) | (rw [decide_eq_false (by omega)]; rfl) | (rw [List.getElem?_eq_none (by omega)]; simp)),rfl⟩
 ·rintro _ w1 ⟨rfl,hw⟩ fy;subst hw;exact ⟨rfl,hs.aF⟩
theorem C215 (lv:Value) (l:List bF) (i:Int) (w:World) (hL:eJ (λ _=>True) w lv l) (hn:l.length≤1000000) (sW:∀ x∈l,0≤x.at_∧x.at_≤1000000∧x.text.size≤1000000):CR 215 [lv,.int .i64 i] w (λ v w'=>v = .int .i64 (mP l i)∧Ext w w'):=by
 have hs:=St.start w;refine aay _ _ _ _ ?_;unfold S215;refine ⟨λ jv w'=>jv = .bool (decide (0≤i∧i<l.length))∧w=w',?_,?_⟩
 ·refine dF (aC (λ oC=>?_) (λ oC=>?_))
  ·refine aJ fD (hL.ext hs.aF) (aR ?_);exact ⟨wW (by omega),rfl⟩
  ·exact ⟨YU (by omega),rfl⟩
 ·rintro _ w1 ⟨rfl,hw⟩ fy;subst hw;refine aC (λ jZ=>?_) (λ jZ=>?_)
  ·obtain ⟨pH,jU⟩:=gx (l) (i:=(i).toNat) (by omega);refine aQ fD hL (by omega) jU (λ _ rh=>bT (pH).at_ lg rh rfl rfl (λ _ tY=>aD bL (tY.ext hs.aF) ?_));exact ⟨congrArg (Value.int .i64) (by unfold mP; rw [if_pos (by omega),jU]),hs.aF⟩
  ·refine aJ fD (hL.ext hs.aF) (aH (aC (λ jy=>?_) (λ jy=>?_)))
   ·have hl0:l=[]:=List.length_eq_zero_iff.1 (by omega);subst hl0;exact ⟨congrArg (Value.int .i64) (by unfold mP; split <;> simp_all),hs.aF⟩
   ·refine aJ fD (hL.ext hs.aF) (gA (by omega) ?_);obtain ⟨GW,pZ⟩:=gx (l) (i:=((((l).length:Int) - 1)).toNat) (by omega);refine aQ fD hL (by omega) pZ (λ _ uh=>bT (GW).at_ lg uh rfl rfl (λ _ rk=>have hs:=hs.drew;aD bL (rk.ext hs.aF) (aJ fD (hL.ext hs.aF) (gA (by omega) (aQ fD hL (by omega) pZ (λ _ z9=>bT (GW).text m6 z9 rfl rfl (λ _ Aa=>aD j8 (Aa.ext hs.aF) (gg gI ?_))))))));have hax:=sW _ (List.mem_of_getElem? pZ);refine aO (by omega) ?_;have hgl:l.getLast? = some GW:=by rw [List.getLast?_eq_getElem?,← pZ]; congr 1; omega
    have fS:(if 0≤i then l[i.toNat]? else none)=none:=by split; exact List.getElem?_eq_none (by omega); rfl
    exact ⟨congrArg (Value.int .i64) (by unfold mP; rw [fS,hgl]),hs.aF⟩
def numOf (s:ByteArray) (a k:Nat):Int:=(((lh s).drop a).take (k - a)).foldl (λ n c=>if n≤4294967296 then 10 * n+((c.toNat:Int) - 48) else n) 0
theorem Jc (s:ByteArray) (a:Nat):numOf s a a=0:=by unfold numOf; rw [Nat.sub_self]; rfl
theorem yW {s:ByteArray} {a k:Nat} {c:UInt8} (ha:a≤k) (h:(lh s)[k]? = some c):numOf s a (k+1)=if numOf s a k≤4294967296 then 10 * numOf s a k+((c.toNat:Int) - 48) else numOf s a k:=by
 unfold numOf
 rw [show k+1 - a=(k - a)+1 from by omega,List.take_add_one,List.getElem?_drop,show a+(k - a)=k from by omega,h,Option.toList_some,List.foldl_append]
 rfl
theorem adC {s:ByteArray} {a:Nat}:∀ {k:Nat},a≤k→k≤s.size→(∀ j c,a≤j→j<k→(lh s)[j]? = some c→48≤(c.toNat:Int)∧(c.toNat:Int)≤57)→0≤numOf s a k∧numOf s a k≤42949672969:=by
 intro k
 induction k with
 | zero=>
  intro h _ _
  have e:a=0:=by omega
  rw [e,Jc]; omega
 | succ k ih=>
  intro ha hk hd
  by_cases e:a=k+1
  ·subst e; rw [Jc]; omega
  ·have:=ih (by omega) (by omega) λ j c h1 h2=>hd j c h1 (by omega)
   obtain ⟨c,hc⟩:∃ c,(lh s)[k]? = some c:=⟨_,List.getElem?_eq_getElem (by rw [ed]; omega)⟩
   have h2:=hd k c (by omega) (by omega) hc
   rw [yW (by omega) hc]
   split <;> omega
def mr (s:ByteArray):Nat→Nat→List bF→Option (List bF × Int × Int)
 | 0,_,_=>none
 | n+1,a,out=>match (lh s)[a]? with
  | none=>some (out,0,0)
  | some c=>
   if jw c.toNat=true then (if 16<vH rL s a - a then some ([],2,(a:Int)) else (kL s (s.size+1) (vH rL s a)).bind λ a'=>mr s n a' (out++[⟨1,s.extract a (vH rL s a),0,a⟩]))
   else if nu c.toNat=true then (if 4294967296<numOf s a (vH vE s a) then some ([],4,(a:Int)) else (kL s (s.size+1) (vH vE s a)).bind λ a'=>mr s n a' (out++[⟨2,s.extract a (vH vE s a),numOf s a (vH vE s a),a⟩]))
   else if pQ s a c=0 then some ([],3,(a:Int)) else (kL s (s.size+1) (a+(pQ s a c).toNat)).bind λ a'=>mr s n a' (out++[⟨3,s.extract a (a+(pQ s a c).toNat),0,a⟩])
def ux (s:ByteArray):Option (List bF × Int × Int):=if 4000<s.size then some ([],2,4000) else (kL s (s.size+1) 0).bind λ a=>mr s (s.size+2) a []
theorem OA {s:ByteArray} {n a:Nat} {out:List bF} {r:List bF × Int × Int} (h:mr s n a out=some r):∃ k,n=k+1:=by
 cases n with
 | zero=>cases h
 | succ k=>exact ⟨k,rfl⟩
def AK (s:ByteArray) (k a:Nat) (out:List bF) (R:List bF × Int × Int) (kd:Int) (e:Nat) (n:Int):Prop:=a<e∧e≤s.size∧∃ a',kL s (s.size+1) e=some a'∧mr s k a' (out++[⟨kd,s.extract a e,n,a⟩])=some R
section
variable {s:ByteArray} {k a:Nat} {c:UInt8} {out:List bF} {R:List bF × Int × Int}
theorem SD (h:mr s (k+1) a out=some R) (ha:s.size≤a):R=(out,0,0):=by
 unfold mr at h; rw [List.getElem?_eq_none (by rw [ed]; exact ha)] at h; exact (Option.some.inj h).symm
theorem F3 (h:mr s (k+1) a out=some R) (hc:(lh s)[a]? = some c) (hl:jw c.toNat=true) (hb:16<vH rL s a - a):R=([],2,(a:Int)):=by
 unfold mr at h; rw [hc] at h; dsimp only at h; rw [if_pos hl,if_pos hb] at h; exact (Option.some.inj h).symm
theorem BP {e:Nat} {kd n:Int} (h:((kL s (s.size+1) e).bind λ a'=>mr s k a' (out++[⟨kd,s.extract a e,n,a⟩]))=some R) (h1:a<e) (h2:e≤s.size):AK s k a out R kd e n:=by
 cases hp:kL s (s.size+1) e with
 | none=>rw [hp] at h; cases h
 | some a'=>rw [hp] at h; exact ⟨h1,h2,a',hp,h⟩
theorem SE (h:mr s (k+1) a out=some R) (hc:(lh s)[a]? = some c) (hl:jw c.toNat=true) (hb:¬ 16<vH rL s a - a) (hgt:a<vH rL s a):AK s k a out R 1 (vH rL s a) 0:=by
 unfold mr at h; rw [hc] at h; dsimp only at h; rw [if_pos hl,if_neg hb] at h
 have:=qe hc; have h2:=Oz (s:=s) (a:=a) rL
 exact BP h hgt (by omega)
theorem Jd (h:mr s (k+1) a out=some R) (hc:(lh s)[a]? = some c) (hl:jw c.toNat=false) (hd:nu c.toNat=true) (hb:4294967296<numOf s a (vH vE s a)):R=([],4,(a:Int)):=by
 unfold mr at h; rw [hc] at h; dsimp only at h; rw [if_neg (by rw [hl]; simp),if_pos hd,if_pos hb] at h; exact (Option.some.inj h).symm
theorem Xr (h:mr s (k+1) a out=some R) (hc:(lh s)[a]? = some c) (hl:jw c.toNat=false) (hd:nu c.toNat=true) (hb:¬ 4294967296<numOf s a (vH vE s a)) (hgt:a<vH vE s a):AK s k a out R 2 (vH vE s a) (numOf s a (vH vE s a)):=by
 unfold mr at h; rw [hc] at h; dsimp only at h; rw [if_neg (by rw [hl]; simp),if_pos hd,if_neg hb] at h
 have:=qe hc; have h2:=Oz (s:=s) (a:=a) vE
 exact BP h hgt (by omega)
theorem SF (h:mr s (k+1) a out=some R) (hc:(lh s)[a]? = some c) (hl:jw c.toNat=false) (hd:nu c.toNat=false) (hb:pQ s a c=0):R=([],3,(a:Int)):=by
 unfold mr at h; rw [hc] at h; dsimp only at h; rw [if_neg (by rw [hl]; simp),if_neg (by rw [hd]; simp),if_pos hb] at h; exact (Option.some.inj h).symm
theorem Xs (s:ByteArray) (a:Nat) (c:UInt8):pQ s a c=0∨pQ s a c=1∨pQ s a c=2:=by
 unfold pQ
 repeat' split
 all_goals simp
theorem QU {s:ByteArray} {a:Nat} {c:UInt8} (h:(lh s)[a]? = some c):(a:Int)+pQ s a c≤s.size:=by
 have hk:=qe h
 unfold pQ
 split
 ·rename_i h2
  rw [List.any_eq_true] at h2
  obtain ⟨t,ht,hb⟩:=h2
  have:t.size=2:=by
   have mv:∀ t∈Cy,t.size=2:=by decide
   exact mv t ht
  unfold BO at hb
  rw [Bool.and_eq_true,decide_eq_true_eq] at hb
  omega
 ·split <;> omega
theorem SG (h:mr s (k+1) a out=some R) (hc:(lh s)[a]? = some c) (hl:jw c.toNat=false) (hd:nu c.toNat=false) (hb:¬ pQ s a c=0):AK s k a out R 3 (a+(pQ s a c).toNat) 0:=by
 unfold mr at h; rw [hc] at h; dsimp only at h; rw [if_neg (by rw [hl]; simp),if_neg (by rw [hd]; simp),if_neg hb] at h
 have h1:=Xs s a c; have h2:=QU hc
 exact BP h (by omega) (by omega)
end
set_option maxHeartbeats 1000000 in
theorem C164 (s:ByteArray) (R:List bF × Int × Int) (w:World) (Yv:s.size≤1000000) (hr:ux s=some R):CR 164 [.string s] w (λ v w'=>∃ o,v = .tuple #[o,.int .i64 R.2.1,.int .i64 R.2.2]∧lY (bK o R.1) w w'):=by
 have hs:=St.start w;refine ZQ _ _ _ ?_;unfold S164;refine gg gI (dB (aC (λ gP=>?_) (λ gP=>?_)))
 ·have hR:([],2,4000)=R:=by unfold ux at hr; rw [if_pos (by omega)] at hr; exact Option.some.inj hr
  subst hR;exact ⟨_,rfl,hs.fU.fresh⟩
 ·have h4:s.size≤4000:=by omega
  obtain ⟨a0,ha0,hp0⟩:∃ a0,kL s (s.size+1) 0=some a0∧mr s (s.size+2) a0 []=some R:=by
   unfold ux at hr;rw [if_neg (by omega)] at hr;cases hq:kL s (s.size+1) 0 with
   | none=>rw [hq] at hr; cases hr
   | some a0=>rw [hq] at hr; exact ⟨a0,rfl,hr⟩
  have ayJ:=AI ha0 (by omega);refine bW (([]:List bF)) hs fD rfl rfl (eI rfl) (λ s_x12 w1 hs=>aZ aeT hs (C209 s 0 (s.size+1) a0 _ (by omega) (by omega) ha0) (λ w2 he hs=>?_));refine ⟨λ mm o x w'=>∃ (a:Nat) (out:List bF),x = .int .i64 (a:Int)∧a≤s.size∧out.length≤a∧mr s mm a out=some R∧St w bD [bK o out] w',⟨_,a0,[],rfl,ayJ.2,Nat.zero_le _,hp0,hs⟩,?_⟩;rintro mm yq _ w3 ⟨a,out,rfl,ha,YC,hp,hs⟩ fy;obtain ⟨k,rfl⟩:=OA hp;refine gg gI (aR (aC (λ gh=>?_) (λ gh=>?_)))
  ·refine pop (Uv _) (aN hs aby (λ SH w4 hs=>aI (x:=(⟨0,(ByteArray.mk #[]),0,(a:Int)⟩:bF)) hs ae8 rfl rfl (λ w5 hs=>?_)));refine ⟨λ to w'=>∃ (kd:Int) (e:Nat) (n:Int),to = .int .i64 (e:Int)∧AK s k a out R kd e n∧St w bD [cE SH (Flat.enc (⟨kd,ByteArray.mk #[],n,(a:Int)⟩:bF)),bK yq out] w',?_,?_⟩
   ·obtain ⟨gR,im⟩:∃ xx,(lh (s))[((a:Int)).toNat]? = some xx:=⟨_,List.getElem?_eq_getElem (by rw [ed]; omega)⟩;refine lO gI (by omega) im ?_;have YG:(lh s)[a]? = some gR:=im;refine aZ PA hs (C206 _ _) (λ w6 he hs=>aX (λ fQ=>?_) (λ fQ=>?_))
    ·have MG:=fQ;refine aA lf (aV hs bL (eI rfl) (rfl) (λ w7 hs=>?_));have hs:=hs.enc (cs':=Flat.enc ({ (⟨0,(ByteArray.mk #[]),0,(a:Int)⟩:bF) with kind:=1}:bF)) rfl;have hs:=hs.p1.p1;refine ⟨λ mm x w'=>∃ j:Nat,x = .int .i64 (j:Int)∧mm=s.size - j∧a≤j∧j≤s.size∧vH rL s a=vH rL s j∧St w bD [cE SH (Flat.enc (⟨1,ByteArray.mk #[],0,(a:Int)⟩:bF)),bK yq out] w',⟨_,a,rfl,rfl,Nat.le_refl _,ha,rfl,hs⟩,?_⟩;rintro mm _ w8 ⟨j,rfl,rfl,haj,hj,gn,hs⟩ jB;refine ⟨λ jv w'=>jv = .bool (match (lh s)[j]? with | some c=>rL c | none=>false)∧St w bD [cE SH (Flat.enc (⟨1,ByteArray.mk #[],0,(a:Int)⟩:bF)),bK yq out] w',?_,?_⟩
     ·refine gg gI (aR (aC (λ nD=>?_) (λ nD=>?_)))
      ·obtain ⟨vt,tj⟩:∃ xx,(lh (s))[((j:Int)).toNat]? = some xx:=⟨_,List.getElem?_eq_getElem (by rw [ed]; omega)⟩;refine lO gI (by omega) tj ?_;have hcj0:(lh s)[j]? = some vt:=tj;refine aZ PA hs (C206 _ _) (λ w9 he hs=>aX (λ jx=>?_) (λ jx=>?_))
       ·exact ⟨vb (by first | (rw [show (lh s)[j]? = some vt from tj]; show _=(jw vt.toNat || nu vt.toNat); rw [jx]; rfl) | (rw [List.getElem?_eq_none (by rw [ed]; omega)])),hs⟩
       ·refine lO gI (by omega) tj (aZ PB hs (C208 _ _) (λ pS he hs=>?_));exact ⟨vb (by first | (rw [show (lh s)[j]? = some vt from tj]; show _=(jw vt.toNat || nu vt.toNat); rw [jx]; rfl) | (rw [List.getElem?_eq_none (by rw [ed]; omega)])),hs⟩
      ·exact ⟨vb (by first | (rw [show (lh s)[j]? = some vt from tj]; show _=(jw vt.toNat || nu vt.toNat); rw [jx]; rfl) | (rw [List.getElem?_eq_none (by rw [ed]; omega)])),hs⟩
     ·rintro _ sU ⟨rfl,hs⟩ oS;refine aX (λ lU=>?_) (λ lU=>?_)
      ·refine aO (by omega) ?_
       have QT:∃ c,(lh s)[j]? = some c∧rL c=true:=by
        cases hc:(lh s)[j]? with
        | none=>rw [hc] at lU; cases lU
        | some c=>rw [hc] at lU; exact ⟨c,rfl,lU⟩
       obtain ⟨cj,Cz,SC⟩:=QT;have hjl:=qe Cz;exact ⟨_,by omega,j+1,rfl,rfl,by omega,by omega,gn.trans (E7 Cz SC),hs⟩
      ·have Je:vH rL s j=j:=by
        by_cases hjs:j<s.size
        ·obtain ⟨cj,QT⟩:∃ c,(lh s)[j]? = some c:=⟨_,List.getElem?_eq_getElem (by rw [ed]; exact hjs)⟩;rw [QT] at lU; exact E8 QT lU
        ·exact Jb (by omega)
       refine gA (by omega) (dB (aC (λ zV=>?_) (λ zV=>?_)))
       ·have hs:=((hs.drop)).drop;have hR:=F3 hp YG MG (by rw [gn,Je]; omega);subst hR;exact ⟨_,rfl,hs.fU.fresh⟩
       ·have hs:=hs.p1.p1
        have hgt:a<j:=by
         rcases Nat.lt_or_ge a j with h | h
         ·exact h
         ·obtain rfl:j=a:=by omega
          rw [YG] at lU; have h9:rL gR=false:=lU; unfold rL at h9; rw [MG] at h9; cases h9
        have Xt:=SE hp YG MG (by rw [gn,Je]; omega) (by rw [gn,Je]; exact hgt);rw [gn,Je] at Xt;exact ⟨1,j,0,rfl,Xt,hs⟩
    ·have MG:=fQ;refine lO gI (by omega) im (aZ PB hs (C208 _ _) (λ vm he hs=>aX (λ B5=>?_) (λ B5=>?_)))
     ·have hda:=B5;refine aA lf (aV hs bL (eI rfl) (rfl) (λ vn hs=>?_));have hs:=hs.enc (cs':=Flat.enc ({ (⟨0,(ByteArray.mk #[]),0,(a:Int)⟩:bF) with kind:=2}:bF)) rfl;have hs:=hs.p1.p1;refine ⟨λ mm x w'=>∃ j:Nat,x = .int .i64 (j:Int)∧mm=s.size - j∧a≤j∧j≤s.size∧vH vE s a=vH vE s j∧(∀ (i:Nat) (c:UInt8),a≤i→i<j→(lh s)[i]? = some c→48≤(c.toNat:Int)∧(c.toNat:Int)≤57)∧St w bD [cE SH (Flat.enc (⟨2,ByteArray.mk #[],(numOf s a j),(a:Int)⟩:bF)),bK yq out] w',⟨_,a,rfl,rfl,Nat.le_refl _,ha,rfl,λ i c h1 h2=>absurd h1 (by omega),by rw [Jc]; exact hs⟩,?_⟩
      rintro mm _ sm ⟨j,rfl,rfl,haj,hj,gn,hdg,hs⟩ GQ;refine ⟨λ jv w'=>jv = .bool (match (lh s)[j]? with | some c=>vE c | none=>false)∧St w bD [cE SH (Flat.enc (⟨2,ByteArray.mk #[],(numOf s a j),(a:Int)⟩:bF)),bK yq out] w',?_,?_⟩
      ·refine gg gI (aR (aC (λ ue=>?_) (λ ue=>?_)))
       ·obtain ⟨agr,OB⟩:∃ xx,(lh (s))[((j:Int)).toNat]? = some xx:=⟨_,List.getElem?_eq_getElem (by rw [ed]; omega)⟩;refine lO gI (by omega) OB (aZ PB hs (C208 _ _) (λ v7 he hs=>?_));exact ⟨vb (by first | (rw [show (lh s)[j]? = some agr from OB]; rfl) | (rw [List.getElem?_eq_none (by rw [ed]; omega)])),hs⟩
       ·exact ⟨vb (by first | (rw [show (lh s)[j]? = some agr from OB]; rfl) | (rw [List.getElem?_eq_none (by rw [ed]; omega)])),hs⟩
      ·rintro _ yZ ⟨rfl,hs⟩ R4;refine aX (λ oI=>?_) (λ oI=>?_)
       ·have QT:∃ c,(lh s)[j]? = some c∧vE c=true:=by
         cases hc:(lh s)[j]? with
         | none=>rw [hc] at oI; cases oI
         | some c=>rw [hc] at oI; exact ⟨c,rfl,oI⟩
        obtain ⟨cj,Cz,SC⟩:=QT;have hjl:=qe Cz;have hcd:=SC;unfold vE nu at hcd;rw [decide_eq_true_eq] at hcd;have hnb:=adC haj (by omega) hdg;refine ⟨λ w'=>St w bD [cE SH (Flat.enc (⟨2,ByteArray.mk #[],(numOf s a (j+1)),(a:Int)⟩:bF)),bK yq out] w',?_,?_⟩
        ·refine aA q7 (aB (v:=.int .i64 (numOf s a j)) bL hs.hb rfl (j7 (aC (λ oh=>?_) (λ oh=>?_))))
         ·refine aA q7 (have hs:=hs.drew;aB (v:=.int .i64 (numOf s a j)) bL hs.hb rfl (PE (by omega) ?_));obtain ⟨arF,Xu⟩:∃ xx,(lh (s))[((j:Int)).toNat]? = some xx:=⟨_,List.getElem?_eq_getElem (by rw [ed]; omega)⟩;refine lO gI (by omega) Xu ?_;obtain rfl:=Option.some.inj (Xu.symm.trans (show (lh s)[((j:Int)).toNat]? = some cj from Cz));refine Xk (by omega) (Sz xE oN (by omega) (aO (by omega) (aA q7 (aV hs bL (eI rfl) (rfl) (λ Cp hs=>?_)))));have hs:=hs.enc (cs':=Flat.enc ({ (⟨2,ByteArray.mk #[],(numOf s a j),(a:Int)⟩:bF) with n:=((10 * (numOf s a j))+((arF.toNat:Int) - 48))}:bF)) rfl
          have hs:=hs.p1.p1;rw [yW haj Cz,if_pos oh];exact hs
         ·have hs:=hs.p1.p1;rw [yW haj Cz,if_neg oh];exact hs
        ·intro Iv hs dd6;refine aO (by omega) ?_
         exact ⟨_,by omega,j+1,rfl,rfl,by omega,by omega,gn.trans (E7 Cz SC),λ i c h1 h2 h3=>by
          by_cases e:i=j
          ·subst e; obtain rfl:=Option.some.inj (h3.symm.trans Cz); omega
          ·exact hdg i c h1 (by omega) h3,hs⟩
       ·have Je:vH vE s j=j:=by
         by_cases hjs:j<s.size
         ·obtain ⟨cj,QT⟩:∃ c,(lh s)[j]? = some c:=⟨_,List.getElem?_eq_getElem (by rw [ed]; exact hjs)⟩;rw [QT] at oI; exact E8 QT oI
         ·exact Jb (by omega)
        refine aA q7 (aB (v:=.int .i64 (numOf s a j)) bL hs.hb rfl (dB (aC (λ zX=>?_) (λ zX=>?_))))
        ·have hs:=((hs.drop)).drop;have hR:=Jd hp YG MG hda (by rw [gn,Je]; omega);subst hR;exact ⟨_,rfl,hs.fU.fresh⟩
        ·have hs:=hs.p1.p1
         have hgt:a<j:=by
          rcases Nat.lt_or_ge a j with h | h
          ·exact h
          ·obtain rfl:j=a:=by omega
           rw [YG] at oI; have h9:vE gR=false:=oI; unfold vE at h9; rw [hda] at h9; cases h9
         have Xt:=Xr hp YG MG hda (by rw [gn,Je]; omega) (by rw [gn,Je]; exact hgt);rw [gn,Je] at Xt;exact ⟨2,j,_,rfl,Xt,hs⟩
     ·have hda:=B5;have hsb:=Xs s a gR;have hsi:=QU YG;refine aA lf (aV hs bL (eI rfl) (rfl) (λ Jy hs=>have hs:=hs.enc (cs':=Flat.enc ({ (⟨0,(ByteArray.mk #[]),0,(a:Int)⟩:bF) with kind:=3}:bF)) rfl;aZ anF hs (C210 s a gR _ Yv YG) (λ KG he hs=>aO (by omega) (aH (aC (λ Wr=>?_) (λ Wr=>?_))))))
      ·have hs:=((hs.drop)).drop;have hR:=SF hp YG MG hda (by omega);subst hR;exact ⟨_,rfl,hs.fU.fresh⟩
      ·have hs:=hs.p1.p1;have Xt:=SG hp YG MG hda (by omega);exact ⟨3,a+(pQ s a gR).toNat,0,by congr 1; omega,Xt,hs⟩
   ·rintro _ MH ⟨kd,e,n,rfl,Xt,hs⟩ dd7;have ayK:=Xt;obtain ⟨h1e0,h2e0,_⟩:=ayK;refine KA gI (by omega) (by omega) (by omega) (aA m6 (aV hs j8 (eI rfl) (rfl) (λ Qv hs=>have hs:=hs.enc (cs':=Flat.enc ({ (⟨kd,ByteArray.mk #[],n,(a:Int)⟩:bF) with text:=((s).extract ((a:Int)).toNat ((e:Int)).toNat)}:bF)) rfl;aD ae8 hs.At (bW ([(⟨kd,s.extract (a:Int).toNat (e:Int).toNat,n,(a:Int)⟩:bF)]) hs fD rfl rfl (eI rfl) (λ akr To hs=>?_)))));have adD:=(hs).fB;refine cN hs.p2 fD adD (by simp; omega) (by decide) (λ aks VM hs=>?_);have hs:=hs.p1.drop;obtain ⟨h1e,h2e,a2,Yt,YO⟩:=Xt
    have ayL:=AI Yt h2e;refine aZ aeT hs (C209 s e (s.size+1) a2 _ (by omega) (by omega) Yt) (λ Tp he hs=>?_);have hs:=(hs.p1).drop;exact ⟨k,by omega,a2,_,rfl,ayL.2,by simp; omega,YO,hs⟩
  ·have hR:=SD hp (by omega);subst hR;exact ⟨_,rfl,hs.fresh⟩
structure fE where
 l:(List cY)
 to:Int
 e:Int
 at_:Int
deriving DecidableEq
structure dP where
 l:SV
 to:Int
 e:Int
 at_:Int
instance:Flat dP where
 agg:=true
 sz:=4
 enc e:=[.slice e.l.a e.l.n e.l.cap,.int .i64 e.to,.int .i64 e.e,.int .i64 e.at_]
 val e:=.agg [.slice e.l.a e.l.n e.l.cap,.int .i64 e.to,.int .i64 e.e,.int .i64 e.at_].toArray
 pos:=by decide
 len _:=rfl
 one a v h:=by simp at h; rcases h with rfl | rfl | rfl | rfl <;> rfl
 nR _ _:=rfl
 oB h:=by cases h
instance:bZ fE dP where
 dr w s x:=∃ (l_:SV),s=(⟨l_,x.to,x.e,x.at_⟩:dP)∧DL w (Flat.val l_) x.l
 ext h e:=by
  obtain ⟨g0,rfl,h0⟩:=h
  exact ⟨g0,rfl,h0.ext e⟩
theorem kX {w:World} {sh:dP} {x:fE} (h:bZ.dr w sh x):DL w (Flat.val sh.l) x.l:=by obtain ⟨_,rfl,h⟩:=h; exact h
def qf (n:Int):List Int:=if n=0 then [15] else if n=1 then [14] else if n=2 then [10,11,12,13] else if n=3 then [5,6] else [7,8,9]
def C1:List ByteArray:=[⟨#[]⟩,⟨#[]⟩,⟨#[]⟩,⟨#[45]⟩,⟨#[33]⟩,⟨#[43]⟩,⟨#[45]⟩,⟨#[42]⟩,⟨#[47]⟩,⟨#[37]⟩,⟨#[61,61]⟩,⟨#[33,61]⟩,⟨#[60]⟩,⟨#[60,61]⟩,⟨#[38,38]⟩,⟨#[124,124]⟩]
def LY (k:Int):ByteArray:=(C1[k.toNat]?).getD ⟨#[]⟩
def gk (l:List bF) (i e:Int):fE:=⟨[],0,if (l.length:Int)≤i then 6 else e,mP l i⟩
abbrev arG (r:fE) (w:World):=pU λ v w'=>∃ sh:dP,v=Flat.val sh∧lY (eU (λ w=>bZ.dr w sh r)) w w'
def akt (l:List bF) (rec:Int→Int→Int→Option fE):Prop:=∀ (lv:Value) (i d n:Int) (r:fE) (w:World),eJ (λ _=>True) w lv l→rec i d n=some r→0≤i∧i≤l.length→0≤d∧d≤12→0≤n∧n≤5→
 Calls PG 235 [lv,.int .i64 i,.int .i64 d,.int .i64 n].toArray w (arG r w)∧(n=5→Calls PG 257 [lv,.int .i64 i,.int .i64 d].toArray w (arG r w))
structure iu (l:List bF):Prop where
 n:l.length≤5000
 at_:∀ x∈l,0≤x.at_∧x.at_≤1000000∧x.text.size≤1000000
def SI (l:List bF) (i:Int):Bool:=sH l i ⟨#[33]⟩ || sH l i ⟨#[45]⟩
def pb (rec:Int→Int→Int→Option fE) (l:List bF) (i d:Int):Option fE:=
 match (if (l.length:Int)≤i then none else l[i.toNat]?) with
 | none=>some (gk l i 6)
 | some t=>if ((SI l i || sH l i ⟨#[40]⟩) && decide (d=12))=true then some (gk l i 7)
  else if SI l i=true then (rec (i+1) (d+1) 5).bind λ x=>if x.l.length≤10000 then some (if x.e≠0 then x else {x with l:=[⟨if t.text=⟨#[45]⟩ then 3 else 4,0,⟨#[]⟩,t.at_⟩]++x.l}) else none
  else if sH l i ⟨#[40]⟩=true then (rec (i+1) (d+1) 0).bind λ x=>some (if x.e≠0 then x else if sH l x.to ⟨#[41]⟩=true then {x with to:=x.to+1} else gk l x.to 5)
  else if t.kind=2 then some ⟨[⟨1,t.n,⟨#[]⟩,t.at_⟩],i+1,0,0⟩
  else if (decide (t.kind=1) && j1 t.text)=true then some ⟨[⟨2,0,t.text,t.at_⟩],i+1,0,0⟩
  else some (gk l i 5)
def Fa (l:List bF) (to n:Int) (k:Nat):Int:=((qf n).take k).foldl (λ op f=>if sH l to (LY f)=true then f else op) 0
def Jf (l:List bF) (to n:Int):Int:=Fa l to n (qf n).length
theorem Hh {l:List bF} {to n:Int} {k:Nat} {f:Int} (h:(qf n)[k]? = some f):Fa l to n (k+1)=if sH l to (LY f)=true then f else Fa l to n k:=by
 unfold Fa; rw [List.take_add_one,h,Option.toList_some,List.foldl_append]; rfl
def vw (rec:Int→Int→Int→Option fE) (l:List bF) (d n:Int):Nat→fE→Option fE
 | 0,_=>none
 | k+1,x=>if x.e≠0 then some x else if Jf l x.to n=0 then some x else match (if 0≤x.to then l[x.to.toNat]? else none) with
  | none=>none
  | some t=>match rec (x.to+1) d (n+1) with
   | none=>none
   | some y=>if y.e≠0 then some y else if x.l.length+y.l.length≤10000 then
     (if n=2 then some ⟨[⟨Jf l x.to n,0,⟨#[]⟩,t.at_⟩]++x.l++y.l,y.to,0,0⟩ else vw rec l d n k ⟨[⟨Jf l x.to n,0,⟨#[]⟩,t.at_⟩]++x.l++y.l,y.to,0,0⟩) else none
def Hi (l:List bF):Nat→Int→Int→Int→Option fE
 | 0,_,_,_=>none
 | k+1,i,d,n=>if n=5 then pb (Hi l k) l i d else (Hi l k i d (n+1)).bind (vw (Hi l k) l d n k)
theorem Xv {n:Int} {k:Nat} {f:Int} (h:(qf n)[k]? = some f):5≤f∧f≤15:=by
 have hm:=List.mem_of_getElem? h
 unfold qf at hm
 repeat' split at hm
 all_goals (simp at hm; omega)
section
variable {rec:Int→Int→Int→Option fE} {l:List bF} {i d n:Int} {r x y:fE} {t:bF} {k:Nat}
theorem OC (h:pb rec l i d=some r) (hl:(l.length:Int)≤i):r=gk l i 6:=by
 unfold pb at h; rw [if_pos hl] at h; exact (Option.some.inj h).symm
theorem LZ (h:pb rec l i d=some r) (hl:¬ (l.length:Int)≤i) (ht:l[i.toNat]? = some t) (hd:((SI l i || sH l i ⟨#[40]⟩) && decide (d=12))=true):r=gk l i 7:=by
 unfold pb at h; rw [if_neg hl,ht] at h; dsimp only at h; rw [if_pos hd] at h; exact (Option.some.inj h).symm
theorem SJ (h:pb rec l i d=some r) (hl:¬ (l.length:Int)≤i) (ht:l[i.toNat]? = some t) (hd:((SI l i || sH l i ⟨#[40]⟩) && decide (d=12))=false) (hu:SI l i=true) :
  ∃ x,rec (i+1) (d+1) 5=some x∧x.l.length≤10000∧r=if x.e≠0 then x else {x with l:=[⟨if t.text=⟨#[45]⟩ then 3 else 4,0,⟨#[]⟩,t.at_⟩]++x.l}:=by
 unfold pb at h; rw [if_neg hl,ht] at h; dsimp only at h; rw [if_neg (by rw [hd]; simp),if_pos hu] at h
 cases hr:rec (i+1) (d+1) 5 with
 | none=>rw [hr] at h; cases h
 | some x=>
  rw [hr] at h
  by_cases hx:x.l.length≤10000
  ·exact ⟨x,rfl,hx,by simpa [hx] using h.symm⟩
  ·simp [hx] at h
theorem L3 (h:pb rec l i d=some r) (hl:¬ (l.length:Int)≤i) (ht:l[i.toNat]? = some t) (hd:((SI l i || sH l i ⟨#[40]⟩) && decide (d=12))=false) (hu:SI l i=false) (ho:sH l i ⟨#[40]⟩=true) :
  ∃ x,rec (i+1) (d+1) 0=some x∧r=if x.e≠0 then x else if sH l x.to ⟨#[41]⟩=true then {x with to:=x.to+1} else gk l x.to 5:=by
 unfold pb at h; rw [if_neg hl,ht] at h; dsimp only at h; rw [if_neg (by rw [hd]; simp),if_neg (by rw [hu]; simp),if_pos ho] at h
 cases hr:rec (i+1) (d+1) 0 with
 | none=>rw [hr] at h; cases h
 | some x=>rw [hr] at h; exact ⟨x,rfl,(Option.some.inj h).symm⟩
theorem L4 (h:pb rec l i d=some r) (hl:¬ (l.length:Int)≤i) (ht:l[i.toNat]? = some t) (hd:((SI l i || sH l i ⟨#[40]⟩) && decide (d=12))=false) (hu:SI l i=false) (ho:sH l i ⟨#[40]⟩=false) :
  r=if t.kind=2 then ⟨[⟨1,t.n,⟨#[]⟩,t.at_⟩],i+1,0,0⟩ else if (decide (t.kind=1) && j1 t.text)=true then ⟨[⟨2,0,t.text,t.at_⟩],i+1,0,0⟩ else gk l i 5:=by
 unfold pb at h; rw [if_neg hl,ht] at h; dsimp only at h; rw [if_neg (by rw [hd]; simp),if_neg (by rw [hu]; simp),if_neg (by rw [ho]; simp)] at h
 split at h
 ·rename_i h1; rw [if_pos h1]; exact (Option.some.inj h).symm
 ·rename_i h1; rw [if_neg h1]
  split at h
  ·rename_i h2; rw [if_pos h2]; exact (Option.some.inj h).symm
  ·rename_i h2; rw [if_neg h2]; exact (Option.some.inj h).symm
theorem OD (h:vw rec l d n k x=some r):∃ j,k=j+1:=by
 cases k with
 | zero=>cases h
 | succ j=>exact ⟨j,rfl⟩
theorem adE (h:vw rec l d n (k+1) x=some r) (he:x.e≠0):r=x:=by
 unfold vw at h; rw [if_pos he] at h; exact (Option.some.inj h).symm
theorem Xw (h:vw rec l d n (k+1) x=some r) (he:¬ x.e≠0) (ho:Jf l x.to n=0):r=x:=by
 unfold vw at h; rw [if_neg he,if_pos ho] at h; exact (Option.some.inj h).symm
theorem Xx (h:vw rec l d n (k+1) x=some r) (he:¬ x.e≠0) (ho:¬ Jf l x.to n=0):∃ t y,0≤x.to∧l[x.to.toNat]? = some t∧rec (x.to+1) d (n+1)=some y∧(y.e≠0→r=y)∧
  (¬ y.e≠0→x.l.length+y.l.length≤10000∧(n=2→r=⟨[⟨Jf l x.to n,0,⟨#[]⟩,t.at_⟩]++x.l++y.l,y.to,0,0⟩)∧(¬ n=2→vw rec l d n k ⟨[⟨Jf l x.to n,0,⟨#[]⟩,t.at_⟩]++x.l++y.l,y.to,0,0⟩=some r)):=by
 unfold vw at h; rw [if_neg he,if_neg ho] at h
 by_cases h0:0≤x.to
 ·rw [if_pos h0] at h
  cases ht:l[x.to.toNat]? with
  | none=>rw [ht] at h; cases h
  | some t=>
   rw [ht] at h; dsimp only at h
   cases hr:rec (x.to+1) d (n+1) with
   | none=>rw [hr] at h; cases h
   | some y=>
    rw [hr] at h; dsimp only at h
    refine ⟨t,y,h0,rfl,rfl,λ hy=>?_,λ hy=>?_⟩
    ·rw [if_pos hy] at h; exact (Option.some.inj h).symm
    ·rw [if_neg hy] at h
     by_cases hl:x.l.length+y.l.length≤10000
     ·rw [if_pos hl] at h
      refine ⟨hl,λ h2=>?_,λ h2=>?_⟩
      ·rw [if_pos h2] at h; exact (Option.some.inj h).symm
      ·rw [if_neg h2] at h; exact h
     ·rw [if_neg hl] at h; cases h
 ·rw [if_neg h0] at h; cases h
theorem ags (h:Hi l (k+1) i d 5=some r):pb (Hi l k) l i d=some r:=by unfold Hi at h; rw [if_pos rfl] at h; exact h
theorem arH (h:Hi l (k+1) i d n=some r) (hn:¬ n=5):∃ x,Hi l k i d (n+1)=some x∧vw (Hi l k) l d n k x=some r:=by
 unfold Hi at h; rw [if_neg hn] at h
 cases hx:Hi l k i d (n+1) with
 | none=>rw [hx] at h; cases h
 | some x=>rw [hx] at h; exact ⟨x,rfl,h⟩
end
def vx (l:List bF) (i:Int):Option (List cY × Int × Int × Int):=if i<0 then some ([],0,1,0) else (Hi l 10000 i 0 0).bind λ x=>
 if x.e≠0 then some ([],0,x.e,x.at_) else match yB x.l,l[i.toNat]? with
  | some t,some k=>if x.l.length≤10000 then (if 12<t.depth then some ([],0,7,k.at_) else if 40<x.l.length then some ([],0,2,k.at_) else some (x.l,x.to,0,0)) else none
  | _,_=>none
theorem OE (n:Int):(qf n).length≤4:=by
 unfold qf
 repeat' split
 all_goals simp
theorem C258 (n:Int) (w:World) (hn:0≤n∧n≤4):CR 258 [.int .i64 n] w (λ v w'=>lY (bK v (qf n)) w w'):=by
 have hs:=St.start w;refine abe _ _ _ ?_;unfold S258;refine bW (([15]:List Int)) hs dY rfl rfl (eI rfl) (λ arI w1 hs=>bW (([14]:List Int)) hs dY rfl rfl (eI rfl) (λ awH w2 hs=>bW (([10,11,12,13]:List Int)) hs dY rfl rfl (eI rfl) (λ Iy w3 hs=>bW (([5,6]:List Int)) hs dY rfl rfl (eI rfl) (λ acA w4 hs=>bW (([7,8,9]:List Int)) hs dY rfl rfl (eI rfl) (λ Lc w5 hs=>?_)))));obtain ⟨QV,rfl⟩:=(hs.p4).fR;obtain ⟨CU,rfl⟩:=(hs.p3).fR;obtain ⟨QW,rfl⟩:=(hs.p2).fR;obtain ⟨QX,rfl⟩:=(hs.p1).fR;obtain ⟨QY,rfl⟩:=(hs).fR;refine bW ([QV,CU,QW,QX,QY]) hs xX rfl rfl (eI rfl) (λ xN w6 hs=>?_)
 have hs:=((((((((((((hs.abF (α:=Int))).p6).p1).DJ).p5).p1).DJ).p4).p1).DJ).p3).p1;have hs:=hs.DJ.p2.p1.DJ;obtain rfl | rfl | rfl | rfl | rfl:n=0∨n=1∨n=2∨n=3∨n=4:=by omega
 ·have adF:=hs.zI;refine dR hs.p1 xX (by decide) (by simp) (λ QZ qt=>ga hs.p1 eu qt (show _=some QV from rfl) ?_);have hs:=hs.split;exact hs.fresh
 ·have adF:=hs.zI;refine dR hs.p1 xX (by decide) (by simp) (λ QZ qt=>ga hs.p1 eu qt (show _=some CU from rfl) ?_);have hs:=hs.split.drop.split;exact hs.fresh
 ·have adF:=hs.zI;refine dR hs.p1 xX (by decide) (by simp) (λ QZ qt=>ga hs.p1 eu qt (show _=some QW from rfl) ?_);have hs:=hs.split.drop.split.drop.split;exact hs.fresh
 ·have adF:=hs.zI;refine dR hs.p1 xX (by decide) (by simp) (λ QZ qt=>ga hs.p1 eu qt (show _=some QX from rfl) ?_);have hs:=hs.split.drop.split.drop.split.drop.split;exact hs.fresh
 ·have adF:=hs.zI;refine dR hs.p1 xX (by decide) (by simp) (λ QZ qt=>ga hs.p1 eu qt (show _=some QY from rfl) ?_);have hs:=hs.split.drop.split.drop.split.drop.split.drop.split;exact hs.fresh
theorem C259 (k:Int) (w:World) (hk:0≤k∧k≤15):CR 259 [.int .i64 k] w (λ v w'=>v = .string (LY k)∧Ext w w'):=by
 have hs:=St.start w;refine abf _ _ _ ?_;unfold S259;refine bW (C1) hs mV rfl rfl (eI rfl) (λ arI w1 hs=>?_);have hsl:C1.length=16:=rfl;obtain ⟨ayM,L5⟩:=gx (C1) (i:=(k).toNat) (by omega);refine dR hs mV (by omega) (by omega) (λ _ Se=>ga hs j8 Se L5 ?_);refine ⟨?_,hs.drop.aF⟩;unfold LY;rw [L5]; rfl
theorem C263 (lv:Value) (l:List bF) (i e:Int) (w:World) (hL:eJ (λ _=>True) w lv l) (hk:iu l):CR 263 [lv,.int .i64 i,.int .i64 e] w (λ v w'=>∃ sh:dP,v=Flat.val sh∧lY (eU (λ w=>bZ.dr w sh (gk l i e))) w w'):=by
 have Fy:=hk.n;have hn:l.length≤1000000:=by omega
 have sW:=hk.at_;have hs:=St.start w;refine abj _ _ _ _ _ ?_;unfold S263;refine aN hs sg (λ Od w1 hs=>?_);have hs:=hs.enc (cs':=Flat.enc (⟨⟨none,0,0⟩,0,0,0⟩:dP)) rfl;refine ⟨λ jv w'=>jv = .int .i64 (if (l.length:Int)≤i then 6 else e)∧w1=w',?_,?_⟩
 ·refine aJ fD (hL.ext hs.aF) (dF (aC (λ fO=>?_) (λ fO=>?_)))
  ·exact ⟨by rw [if_pos (by omega)],rfl⟩
  ·exact ⟨by rw [if_neg (by omega)],rfl⟩
 ·rintro _ w2 ⟨rfl,hw⟩ fy;subst hw;refine aZ Gp hs (C215 _ l i _ (hL.ext hs.aF) hn sW) (λ w3 he hs=>pop (Nj _ _) (aI (x:=(⟨⟨none,0,0⟩,0,(if (l.length:Int)≤i then 6 else e),(mP l i)⟩:dP)) hs fT rfl rfl (λ w4 hs=>aD fT hs.At ?_)));have hs:=hs.gF (Φ:=(λ w=>bZ.dr w (⟨⟨none,0,0⟩,0,(if (l.length:Int)≤i then 6 else e),(mP l i)⟩:dP) (⟨[],0,(if (l.length:Int)≤i then 6 else e),(mP l i)⟩:fE))) (λ w=>⟨_,rfl,DL.nil _⟩);have hs:=(hs.p1).drop;exact ⟨_,rfl,hs.fresh⟩
set_option maxHeartbeats 2000000 in
theorem C257 (l:List bF) (rec:Int→Int→Int→Option fE) (lv:Value) (i d:Int) (r:fE) (w:World) (hL:eJ (λ _=>True) w lv l) (hk:iu l) (HR:akt l rec) (h0:0≤i∧i≤l.length) (hd:0≤d∧d≤12) (hr:pb rec l i d=some r):CR 257 [lv,.int .i64 i,.int .i64 d] w (λ v w'=>∃ sh:dP,v=Flat.val sh∧lY (eU (λ w=>bZ.dr w sh r)) w w'):=by
 have Fy:=hk.n;have hn:l.length≤1000000:=by omega
 have sW:=hk.at_;have hs:=St.start w;refine abd _ _ _ _ _ ?_;unfold S257;refine aN hs sg (λ Od w1 hs=>have hs:=hs.enc (cs':=Flat.enc (⟨⟨none,0,0⟩,0,0,0⟩:dP)) rfl;aJ fD (hL.ext hs.aF) (dF (aC (λ eB=>?_) (λ eB=>?_))))
 ·refine eD PD (C263 _ l i 6 _ (hL.ext hs.aF) hk) ?_;rintro _ w2 ⟨aku,rfl,bY⟩;have hs:=hs.made bY;obtain ⟨AL,OF,_⟩:=(hs).eU;subst OF;refine aI (x:=(⟨AL,((gk l i 6)).to,((gk l i 6)).e,((gk l i 6)).at_⟩:dP)) hs.p1 fT rfl rfl (λ w3 hs=>aD fT hs.At ?_);have hR:r=(⟨((gk l i 6)).l,((gk l i 6)).to,((gk l i 6)).e,((gk l i 6)).at_⟩:fE):=OC hr (by omega);rw [hR];have hs:=hs.p1.dN (Ψ:=(λ w=>bZ.dr w (⟨AL,((gk l i 6)).to,((gk l i 6)).e,((gk l i 6)).at_⟩:dP) (⟨((gk l i 6)).l,((gk l i 6)).to,((gk l i 6)).e,((gk l i 6)).at_⟩:fE))) (λ w h=>⟨_,rfl,kX (h)⟩)
  have hs:=(hs.p1).drop;exact ⟨_,rfl,hs.fresh⟩
 ·obtain ⟨t,ht⟩:∃ t,l[i.toNat]? = some t:=⟨_,List.getElem?_eq_getElem (by omega)⟩;have hta:=sW t (List.mem_of_getElem? ht);refine ⟨λ jv w'=>jv = .bool (SI l i)∧St w bD [cE Od (Flat.enc (⟨⟨none,0,0⟩,0,0,0⟩:dP))] w',?_,?_⟩
  ·refine aZ vk hs (C211 _ l i (ByteArray.mk #[33]) _ (hL.ext hs.aF) hn) (λ w4 he hs=>aX (λ iM=>?_) (λ iM=>?_))
   ·exact ⟨vb (by unfold SI; rw [iM]; rfl),hs⟩
   ·refine aZ vk hs (C211 _ l i (ByteArray.mk #[45]) _ (hL.ext hs.aF) hn) (λ w5 he hs=>?_);exact ⟨vb (by unfold SI; rw [iM]; rfl),hs⟩
  ·rintro _ w6 ⟨rfl,hs⟩ fy;refine aZ vk hs (C211 _ l i (ByteArray.mk #[40]) _ (hL.ext hs.aF) hn) (λ w7 he hs=>?_);refine ⟨λ jv w'=>jv = .bool ((SI l i || sH l i (ByteArray.mk #[40])) && decide (d=12))∧St w bD [cE Od (Flat.enc (⟨⟨none,0,0⟩,0,0,0⟩:dP))] w',?_,?_⟩
   ·refine aX (λ nH=>?_) (λ nH=>?_)
    ·refine aH ?_;exact ⟨vb (by first | (rw [nH]; simp; done) | (rw [nH,nD]; simp; done) | (rw [nH]; rfl) | (rw [nH,nD]; rfl)),hs⟩
    ·refine aX (λ nD=>?_) (λ nD=>?_)
     ·refine aH ?_;exact ⟨vb (by first | (rw [nH]; simp; done) | (rw [nH,nD]; simp; done) | (rw [nH]; rfl) | (rw [nH,nD]; rfl)),hs⟩
     ·exact ⟨vb (by first | (rw [nH]; simp; done) | (rw [nH,nD]; simp; done) | (rw [nH]; rfl) | (rw [nH,nD]; rfl)),hs⟩
   ·rintro _ w8 ⟨rfl,hs⟩ jB;refine aX (λ nd=>?_) (λ nd=>?_)
    ·refine eD PD (C263 _ l i 7 _ (hL.ext hs.aF) hk) ?_;rintro _ w9 ⟨ayN,rfl,bY⟩;have hs:=hs.made bY;obtain ⟨Q0,akv,_⟩:=(hs).eU;subst akv;refine aI (x:=(⟨Q0,((gk l i 7)).to,((gk l i 7)).e,((gk l i 7)).at_⟩:dP)) hs.p1 fT rfl rfl (λ pS hs=>aD fT hs.At ?_);have hR:r=(⟨((gk l i 7)).l,((gk l i 7)).to,((gk l i 7)).e,((gk l i 7)).at_⟩:fE):=LZ hr (by omega) ht nd;rw [hR];have hs:=hs.p1.dN (Ψ:=(λ w=>bZ.dr w (⟨Q0,((gk l i 7)).to,((gk l i 7)).e,((gk l i 7)).at_⟩:dP) (⟨((gk l i 7)).l,((gk l i 7)).to,((gk l i 7)).e,((gk l i 7)).at_⟩:fE))) (λ w h=>⟨_,rfl,kX (h)⟩)
     have hs:=(hs.p1).drop;exact ⟨_,rfl,hs.fresh⟩
    ·refine aX (λ nH=>?_) (λ nH=>?_)
     ·refine aO (by omega) (aO (by omega) ?_);have ayO:¬ d=12:=λ h=>by rw [nH,decide_eq_true h] at nd; cases nd
      obtain ⟨x1,hx1,Pe,hrx⟩:=SJ hr (by omega) ht nd nH;refine eD aeZ ((HR _ (i+1) (d+1) 5 x1 _ (hL.ext hs.aF) hx1 (by omega) (by omega) (by omega)).2 rfl) ?_;rintro _ sU ⟨ayP,rfl,bY⟩;have hs:=hs.made bY;obtain ⟨C2,akw,_⟩:=(hs).eU;subst akw;refine aN hs sg (λ DY vm hs=>have hs:=hs.enc (cs':=Flat.enc (⟨⟨none,0,0⟩,0,0,0⟩:dP)) rfl;aI (x:=(⟨C2,(x1).to,(x1).e,(x1).at_⟩:dP)) hs fT rfl rfl (λ vn hs=>aA tU (aB (v:=.int .i64 (x1).e) nq hs.hb rfl (cQ (aC (λ pG=>?_) (λ pG=>?_))))))
      ·refine aD fT hs.At (aI (x:=(⟨C2,(x1).to,(x1).e,(x1).at_⟩:dP)) hs.p2 fT rfl rfl (λ sm hs=>aD fT hs.At ?_));have hR:r=(⟨(x1).l,(x1).to,(x1).e,(x1).at_⟩:fE):=hrx.trans (if_pos pG);rw [hR];have hs:=hs.p2.dN (Ψ:=(λ w=>bZ.dr w (⟨C2,(x1).to,(x1).e,(x1).at_⟩:dP) (⟨(x1).l,(x1).to,(x1).e,(x1).at_⟩:fE))) (λ w h=>⟨_,rfl,kX (h)⟩);have hs:=((hs.p1.drop).p1).drop;exact ⟨_,rfl,hs.fresh⟩
      ·refine ⟨λ jv w'=>jv = .int .i64 (if t.text=ByteArray.mk #[45] then 3 else 4)∧vn=w',?_,?_⟩
       ·refine aQ fD (hL.ext hs.aF) (by omega) ht (λ _ DZ=>bT (t).text m6 DZ rfl rfl (λ _ LD=>aD j8 (LD) (tX (aC (λ ue=>?_) (λ ue=>?_)))))
        ·exact ⟨by rw [if_pos ue],rfl⟩
        ·exact ⟨by rw [if_neg ue],rfl⟩
       ·rintro _ v7 ⟨rfl,hw⟩ oS;subst hw;obtain ⟨op,agt⟩:∃ op,op=(if t.text=ByteArray.mk #[45] then (3:Int) else 4):=⟨_,rfl⟩;rw [← agt];refine aQ fD (hL.ext hs.aF) (by omega) ht (λ _ Lr=>bT (t).at_ lg Lr rfl rfl (λ _ KZ=>aD bL (KZ) (pop (DH _ _) (bW ([(⟨op,0,(ByteArray.mk #[]),(t).at_⟩:cY)]) hs lX rfl rfl (eI rfl) (λ s_x66 yZ hs=>aA q8 (aB (v:=Flat.val (C2:SV)) mU hs.p1.hb rfl ?_))))));have By:=(DL.flat (kX (hs.p2).eU));refine cN hs lX By (by simp; omega) (by decide) (λ agd Cp hs=>aA q8 ?_);obtain ⟨OG,rfl⟩:=(hs).fR
        refine aV hs.p1 mU (eI rfl) (rfl) (λ Iv hs=>have hs:=hs.enc (cs':=Flat.enc (⟨OG,(x1).to,(x1).e,(x1).at_⟩:dP)) rfl;aD fT hs.At (aI (x:=(⟨OG,(x1).to,(x1).e,(x1).at_⟩:dP)) hs.p3 fT rfl rfl (λ Jy hs=>aD fT hs.At ?_)));have hR:r=(⟨([(⟨op,0,(ByteArray.mk #[]),(t).at_⟩:cY)]++(x1).l),(x1).to,(x1).e,(x1).at_⟩:fE):=by rw [hrx,if_neg pG,← agt]
        rw [hR];have hs:=hs.p2.freeze.dN (Ψ:=(λ w=>bZ.dr w (⟨OG,(x1).to,(x1).e,(x1).at_⟩:dP) (⟨([(⟨op,0,(ByteArray.mk #[]),(t).at_⟩:cY)]++(x1).l),(x1).to,(x1).e,(x1).at_⟩:fE))) (λ w h=>⟨_,rfl,DL.fp h⟩);have hs:=(((hs.p1.drop.p1).drop).p1).drop;exact ⟨_,rfl,hs.fresh⟩
     ·refine aX (λ nD=>?_) (λ nD=>?_)
      ·refine aO (by omega) (aO (by omega) ?_);have ayO:¬ d=12:=λ h=>by rw [nH,nD,decide_eq_true h] at nd; cases nd
       obtain ⟨x1,hx1,hrx⟩:=L3 hr (by omega) ht nd nH nD;refine eD PC ((HR _ (i+1) (d+1) 0 x1 _ (hL.ext hs.aF) hx1 (by omega) (by omega) (by omega)).1) ?_;rintro _ KG ⟨ayQ,rfl,bY⟩;have hs:=hs.made bY;obtain ⟨xr,akx,_⟩:=(hs).eU;subst akx;refine aN hs sg (λ UJ MH hs=>have hs:=hs.enc (cs':=Flat.enc (⟨⟨none,0,0⟩,0,0,0⟩:dP)) rfl;aI (x:=(⟨xr,(x1).to,(x1).e,(x1).at_⟩:dP)) hs fT rfl rfl (λ Qv hs=>aA tU (aB (v:=.int .i64 (x1).e) nq hs.hb rfl (cQ (aC (λ Q1=>?_) (λ Q1=>?_))))))
       ·refine aD fT hs.At (aI (x:=(⟨xr,(x1).to,(x1).e,(x1).at_⟩:dP)) hs.p2 fT rfl rfl (λ To hs=>aD fT hs.At ?_));have hR:r=(⟨(x1).l,(x1).to,(x1).e,(x1).at_⟩:fE):=hrx.trans (if_pos Q1);rw [hR];have hs:=hs.p2.dN (Ψ:=(λ w=>bZ.dr w (⟨xr,(x1).to,(x1).e,(x1).at_⟩:dP) (⟨(x1).l,(x1).to,(x1).e,(x1).at_⟩:fE))) (λ w h=>⟨_,rfl,kX (h)⟩);have hs:=((hs.p1.drop).p1).drop;exact ⟨_,rfl,hs.fresh⟩
       ·refine aA nX (aB (v:=.int .i64 (x1).to) bL hs.hb rfl (aZ vk hs (C211 _ l (x1).to (ByteArray.mk #[41]) _ (hL.ext hs.aF) hn) (λ VM he hs=>cB (aX (λ Q2=>?_) (λ Q2=>?_)))))
        ·refine aA nX (aB (v:=.int .i64 (x1).to) bL hs.hb rfl (eD PD (C263 _ l (x1).to 5 _ (hL.ext hs.aF) hk) ?_));rintro _ Tp ⟨ayR,rfl,bY⟩;have hs:=hs.made bY;obtain ⟨Q3,aky,_⟩:=(hs).eU;subst aky;refine aI (x:=(⟨Q3,((gk l (x1).to 5)).to,((gk l (x1).to 5)).e,((gk l (x1).to 5)).at_⟩:dP)) hs.p3 fT rfl rfl (λ w26 hs=>aD fT hs.At ?_);have hR:r=(⟨((gk l (x1).to 5)).l,((gk l (x1).to 5)).to,((gk l (x1).to 5)).e,((gk l (x1).to 5)).at_⟩:fE):=hrx.trans ((if_neg Q1).trans (if_neg (by simpa using Q2)));rw [hR];have hs:=hs.p1.dN (Ψ:=(λ w=>bZ.dr w (⟨Q3,((gk l (x1).to 5)).to,((gk l (x1).to 5)).e,((gk l (x1).to 5)).at_⟩:dP) (⟨((gk l (x1).to 5)).l,((gk l (x1).to 5)).to,((gk l (x1).to 5)).e,((gk l (x1).to 5)).at_⟩:fE))) (λ w h=>⟨_,rfl,kX (h)⟩)
         have hs:=(((hs.p1.drop.p1).drop).p1).drop;exact ⟨_,rfl,hs.fresh⟩
        ·refine aA nX (aB (v:=.int .i64 (x1).to) bL hs.hb rfl ?_);have vl:=rM (l:=l) (i:=x1.to) (t:=ByteArray.mk #[41]) (by simpa using Q2);refine aO (by omega) (aA nX (aV hs bL (eI rfl) (rfl) (λ w27 hs=>have hs:=hs.enc (cs':=Flat.enc (⟨xr,((x1).to+1),(x1).e,(x1).at_⟩:dP)) rfl;aD fT hs.At (aI (x:=(⟨xr,((x1).to+1),(x1).e,(x1).at_⟩:dP)) hs.p2 fT rfl rfl (λ w28 hs=>aD fT hs.At ?_)))));have hR:r=(⟨(x1).l,((x1).to+1),(x1).e,(x1).at_⟩:fE):=hrx.trans ((if_neg Q1).trans (if_pos (by simpa using Q2)));rw [hR];have hs:=hs.p2.dN (Ψ:=(λ w=>bZ.dr w (⟨xr,((x1).to+1),(x1).e,(x1).at_⟩:dP) (⟨(x1).l,((x1).to+1),(x1).e,(x1).at_⟩:fE))) (λ w h=>⟨_,rfl,kX (h)⟩)
         have hs:=((hs.p1.drop).p1).drop;exact ⟨_,rfl,hs.fresh⟩
      ·have Qn:=L4 hr (by omega) ht nd nH nD;refine aQ fD (hL.ext hs.aF) (by omega) ht (λ _ akz=>bT (t).kind lf akz rfl rfl (λ _ akA=>aD bL (akA) (aH (aC (λ Jg=>?_) (λ Jg=>?_)))))
       ·refine aQ fD (hL.ext hs.aF) (by omega) ht (λ _ akB=>bT (t).n q7 akB rfl rfl (λ _ akC=>have hs:=hs.drew;aD bL (akC) (aQ fD (hL.ext hs.aF) (by omega) ht (λ _ akD=>bT (t).at_ lg akD rfl rfl (λ _ NB=>aD bL (NB) (pop (Io _ _ _) (aO (by omega) (bW ([(⟨1,(t).n,(ByteArray.mk #[]),(t).at_⟩:cY)]) hs lX rfl rfl (eI rfl) (λ VL w29 hs=>?_)))))))));obtain ⟨Q4,rfl⟩:=(hs).fR;refine pop (yy _ _ _ _) (aI (x:=(⟨Q4,(i+1),0,0⟩:dP)) hs.p1 fT rfl rfl (λ w30 hs=>aD fT hs.At ?_));have hR:r=(⟨[(⟨1,(t).n,(ByteArray.mk #[]),(t).at_⟩:cY)],(i+1),0,0⟩:fE):=Qn.trans (if_pos Jg)
        rw [hR];have hs:=hs.p1.freeze.dN (Ψ:=(λ w=>bZ.dr w (⟨Q4,(i+1),0,0⟩:dP) (⟨[(⟨1,(t).n,(ByteArray.mk #[]),(t).at_⟩:cY)],(i+1),0,0⟩:fE))) (λ w h=>⟨_,rfl,DL.fp h⟩);have hs:=(hs.p1).drop;exact ⟨_,rfl,hs.fresh⟩
       ·refine ⟨λ jv w'=>jv = .bool (decide (t.kind=1) && j1 t.text)∧St w bD [cE Od (Flat.enc (⟨⟨none,0,0⟩,0,0,0⟩:dP))] w',?_,?_⟩
        ·refine aQ fD (hL.ext hs.aF) (by omega) ht (λ _ akE=>bT (t).kind lf akE rfl rfl (λ _ akF=>aD bL (akF) (aH (aC (λ yH=>?_) (λ yH=>?_)))))
         ·refine aQ fD (hL.ext hs.aF) (by omega) ht (λ _ akG=>bT (t).text m6 akG rfl rfl (λ _ akH=>aD j8 (akH) (aZ tG hs (C161 _ _ (by omega)) (λ w31 he hs=>?_))));exact ⟨vb (by rw [decide_eq_true yH]; rfl),hs⟩
         ·exact ⟨vb (by rw [decide_eq_false yH]; rfl),hs⟩
        ·rintro _ w32 ⟨rfl,hs⟩ GQ;refine aX (λ ER=>?_) (λ ER=>?_)
         ·refine aQ fD (hL.ext hs.aF) (by omega) ht (λ _ akI=>bT (t).text m6 akI rfl rfl (λ _ akJ=>have hs:=hs.drew;aD j8 (akJ) (aQ fD (hL.ext hs.aF) (by omega) ht (λ _ akK=>bT (t).at_ lg akK rfl rfl (λ _ NF=>aD bL (NF) (pop (Ip _ _ _) (aO (by omega) (bW ([(⟨2,0,(t).text,(t).at_⟩:cY)]) hs lX rfl rfl (eI rfl) (λ ayS w33 hs=>?_)))))))));obtain ⟨Q5,rfl⟩:=(hs).fR;refine pop (yy _ _ _ _) (aI (x:=(⟨Q5,(i+1),0,0⟩:dP)) hs.p1 fT rfl rfl (λ w34 hs=>aD fT hs.At ?_));have hR:r=(⟨[(⟨2,0,(t).text,(t).at_⟩:cY)],(i+1),0,0⟩:fE):=Qn.trans ((if_neg Jg).trans (if_pos ER))
          rw [hR];have hs:=hs.p1.freeze.dN (Ψ:=(λ w=>bZ.dr w (⟨Q5,(i+1),0,0⟩:dP) (⟨[(⟨2,0,(t).text,(t).at_⟩:cY)],(i+1),0,0⟩:fE))) (λ w h=>⟨_,rfl,DL.fp h⟩);have hs:=(hs.p1).drop;exact ⟨_,rfl,hs.fresh⟩
         ·refine eD PD (C263 _ l i 5 _ (hL.ext hs.aF) hk) ?_;rintro _ w35 ⟨atI,rfl,bY⟩;have hs:=hs.made bY;obtain ⟨L6,adG,_⟩:=(hs).eU;subst adG;refine aI (x:=(⟨L6,((gk l i 5)).to,((gk l i 5)).e,((gk l i 5)).at_⟩:dP)) hs.p1 fT rfl rfl (λ w36 hs=>aD fT hs.At ?_);have hR:r=(⟨((gk l i 5)).l,((gk l i 5)).to,((gk l i 5)).e,((gk l i 5)).at_⟩:fE):=Qn.trans ((if_neg Jg).trans (if_neg (by simpa using ER)));rw [hR];have hs:=hs.p1.dN (Ψ:=(λ w=>bZ.dr w (⟨L6,((gk l i 5)).to,((gk l i 5)).e,((gk l i 5)).at_⟩:dP) (⟨((gk l i 5)).l,((gk l i 5)).to,((gk l i 5)).e,((gk l i 5)).at_⟩:fE))) (λ w h=>⟨_,rfl,kX (h)⟩)
          have hs:=(hs.p1).drop;exact ⟨_,rfl,hs.fresh⟩
theorem Xy {l:List bF} {i:Int} {R:List cY × Int × Int × Int} (h:vx l i=some R) (hi:¬ i<0):∃ x,Hi l 10000 i 0 0=some x∧
  (if x.e≠0 then some ([],0,x.e,x.at_) else match yB x.l,l[i.toNat]? with
  | some t,some k=>if x.l.length≤10000 then (if 12<t.depth then some ([],0,7,k.at_) else if 40<x.l.length then some ([],0,2,k.at_) else some (x.l,x.to,0,0)) else none
  | _,_=>none)=some R:=by
 unfold vx at h; rw [if_neg hi] at h
 cases hx:Hi l 10000 i 0 0 with
 | none=>rw [hx] at h; cases h
 | some x=>rw [hx] at h; exact ⟨x,rfl,h⟩
theorem OH {x:fE} {o:Option bF} {R:List cY × Int × Int × Int} (h:(match yB x.l,o with
  | some t,some k=>if x.l.length≤10000 then (if 12<t.depth then some ([],0,7,k.at_) else if 40<x.l.length then some ([],0,2,k.at_) else some (x.l,x.to,0,0)) else none
  | _,_=>none)=some R):∃ t k,yB x.l=some t∧o=some k∧x.l.length≤10000∧(if 12<t.depth then some ([],0,7,k.at_) else if 40<x.l.length then some ([],0,2,k.at_) else some (x.l,x.to,0,0))=some R:=by
 cases he:yB x.l with
 | none=>rw [he] at h; cases h
 | some t=>
  cases o with
  | none=>rw [he] at h; cases h
  | some k=>
   rw [he] at h; dsimp only at h
   split at h
   ·rename_i hl; exact ⟨t,k,rfl,rfl,hl,h⟩
   ·cases h
set_option maxHeartbeats 2000000 in
theorem C235 (l:List bF) (j:Nat) (lv:Value) (i d n:Int) (r:fE) (w:World) (hL:eJ (λ _=>True) w lv l) (hk:iu l) (HR:akt l (Hi l j)) (h0:0≤i∧i≤l.length) (hd:0≤d∧d≤12) (hnn:0≤n∧n≤5) (hr:Hi l (j+1) i d n=some r):CR 235 [lv,.int .i64 i,.int .i64 d,.int .i64 n] w (λ v w'=>∃ sh:dP,v=Flat.val sh∧lY (eU (λ w=>bZ.dr w sh r)) w w'):=by
 have Fy:=hk.n;have hn:l.length≤1000000:=by omega
 have sW:=hk.at_;have hs:=St.start w;refine aaR _ _ _ _ _ _ ?_;unfold S235;refine aN hs sg (λ Bl w1 hs=>have hs:=hs.enc (cs':=Flat.enc (⟨⟨none,0,0⟩,0,0,0⟩:dP)) rfl;aH (aC (λ jm=>?_) (λ jm=>?_)))
 ·refine eD aeZ (C257 l (Hi l j) _ i d r _ (hL.ext hs.aF) hk HR h0 hd (ags (by rw [jm] at hr; exact hr))) ?_;rintro _ w2 ⟨aku,rfl,bY⟩;have hs:=hs.made bY;obtain ⟨AL,OF,_⟩:=(hs).eU;subst OF;refine aI (x:=(⟨AL,(r).to,(r).e,(r).at_⟩:dP)) hs.p1 fT rfl rfl (λ w3 hs=>aD fT hs.At ?_);have hR:r=(⟨(r).l,(r).to,(r).e,(r).at_⟩:fE):=rfl;rw [hR];have hs:=hs.p1.dN (Ψ:=(λ w=>bZ.dr w (⟨AL,(r).to,(r).e,(r).at_⟩:dP) (⟨(r).l,(r).to,(r).e,(r).at_⟩:fE))) (λ w h=>⟨_,rfl,kX (h)⟩);have hs:=(hs.p1).drop;exact ⟨_,rfl,hs.fresh⟩
 ·obtain ⟨x1,hx1,ayT⟩:=arH hr jm;refine aO (by omega) (eD PC ((HR _ i d (n+1) x1 _ (hL.ext hs.aF) hx1 h0 hd (by omega)).1) ?_);rintro _ w4 ⟨ayU,rfl,bY⟩;have hs:=hs.made bY;obtain ⟨Jh,akL,_⟩:=(hs).eU;subst akL;refine aN hs sg (λ DY w5 hs=>have hs:=hs.enc (cs':=Flat.enc (⟨⟨none,0,0⟩,0,0,0⟩:dP)) rfl;aI (x:=(⟨Jh,(x1).to,(x1).e,(x1).at_⟩:dP)) hs fT rfl rfl (λ w6 hs=>?_));have hs:=hs.p2.p2.p2.p1.dN (Ψ:=λ w=>DL w (Flat.val Jh) (x1).l) (λ w h=>kX h);have hs:=hs.p2.p1.p2;refine ⟨λ mm w'=>∃ (x:fE) (g:SV),vw (Hi l j) l d n mm x=some r∧St w bD [cE DY (Flat.enc (⟨g,(x).to,(x).e,(x).at_⟩:dP)),eU (λ w=>DL w (Flat.val g) (x).l),cE Bl (Flat.enc (⟨⟨none,0,0⟩,0,0,0⟩:dP))] w',⟨j,x1,Jh,ayT,hs⟩,?_⟩
  rintro mm w7 ⟨x,g,L7,hs⟩ fy;obtain ⟨j2,rfl⟩:=OD L7;refine aA tU (aB (v:=.int .i64 (x).e) nq hs.hb rfl (aH (aC (λ Ly=>?_) (λ Ly=>?_))))
  ·have hs:=hs.p2.p2.p2;refine ⟨λ mm o kk w'=>∃ k:Nat,o = .int .i64 (Fa l x.to n k)∧kk = .int .i64 (k:Int)∧mm=(qf n).length - k∧k≤(qf n).length∧St w bD [cE DY (Flat.enc (⟨g,(x).to,(x).e,(x).at_⟩:dP)),eU (λ w=>DL w (Flat.val g) (x).l),cE Bl (Flat.enc (⟨⟨none,0,0⟩,0,0,0⟩:dP))] w',⟨_,0,rfl,rfl,rfl,Nat.zero_le _,hs⟩,?_⟩;rintro mm _ _ w8 ⟨k,rfl,rfl,rfl,KL,hs⟩ jB;have hfl4:=OE n;refine cZ Ua hs (C258 n _ (by omega)) (λ x31 w9 bY hs=>aJ dY (hs).fB (aR (aC (λ nB=>?_) (λ nB=>?_))))
   ·refine ⟨λ jv w'=>jv = .int .i64 (Fa l x.to n (k+1))∧St w bD [cE DY (Flat.enc (⟨g,(x).to,(x).e,(x).at_⟩:dP)),eU (λ w=>DL w (Flat.val g) (x).l),cE Bl (Flat.enc (⟨⟨none,0,0⟩,0,0,0⟩:dP))] w',?_,?_⟩
    ·refine aA nX (have hs:=hs.drew;aB (v:=.int .i64 (x).to) bL hs.p1.hb rfl (cZ Ua hs (C258 n _ (by omega)) (λ x40 pS bY hs=>?_)));refine ⟨aG bL (hs.p2.hb.cell rfl),?_⟩;obtain ⟨agu,Fb⟩:=gx ((qf n)) (i:=((k:Int)).toNat) (by omega);refine dR hs dY (by omega) (by omega) (λ _ arJ=>ga hs bL arJ Fb ?_);have hfb:=Xv Fb;refine aZ an8 hs (C259 agu _ (by omega)) (λ sU he hs=>?_);refine ⟨aG bL (hs.p2.hb.cell rfl),?_⟩;refine aZ vk hs (C211 _ l (x).to (LY agu) _ (hL.ext hs.aF) hn) (λ vm he hs=>aX (λ kK=>?_) (λ kK=>?_))
     ·refine cZ Ua hs (C258 n _ (by omega)) (λ x47 vn bY hs=>dR hs dY (by omega) (by omega) (λ _ Ep=>ga hs bL Ep Fb ?_));have hs:=(((((((hs.drop)).drop)).drop).p2).p2).p2;exact ⟨by rw [Hh (k:=k) Fb,if_pos kK] <;> rfl,hs⟩
     ·have hs:=(((((hs.drop)).drop).p2).p2).p2;exact ⟨by rw [Hh (k:=k) Fb,if_neg (by simpa using kK)] <;> rfl,hs⟩
    ·rintro _ sm ⟨rfl,hs⟩ oS;refine aO (by omega) ?_;exact ⟨_,by omega,k+1,rfl,rfl,rfl,by omega,hs⟩
   ·have jQ:Fa l x.to n k=Jf l x.to n:=by unfold Jf; rw [show k=(qf n).length from by omega]
    refine aH (aC (λ sy=>?_) (λ sy=>?_))
    ·refine aD fT hs.p1.At (aI (x:=(⟨g,(x).to,(x).e,(x).at_⟩:dP)) hs.p3 fT rfl rfl (λ v7 hs=>aD fT hs.At ?_));have hR:r=(⟨(x).l,(x).to,(x).e,(x).at_⟩:fE):=Xw (x:=x) L7 (by omega) (by rw [← jQ]; exact sy);rw [hR];have hs:=hs.p3.dN (Ψ:=(λ w=>bZ.dr w (⟨g,(x).to,(x).e,(x).at_⟩:dP) (⟨(x).l,(x).to,(x).e,(x).at_⟩:fE))) (λ w h=>⟨_,rfl,id (h)⟩);have hs:=(((hs.p1.drop.p1).drop).p1).drop;exact ⟨_,rfl,hs.fresh⟩
    ·obtain ⟨t,y,h0t,ht,hy,hye,hyn⟩:=Xx L7 (by omega) (by rw [← jQ]; exact sy);have M7:=(List.getElem?_eq_some_iff.1 ht).1;refine aA nX (aB (v:=.int .i64 (x).to) bL hs.p1.hb rfl (aO (by omega) (aO (by omega) (eD PC ((HR _ (x.to+1) d (n+1) y _ (hL.ext hs.aF) hy (by omega) hd (by omega)).1) ?_))));rintro _ yZ ⟨ayW,rfl,bY⟩;have hs:=hs.made bY;obtain ⟨C3,akM,_⟩:=(hs).eU;subst akM;refine aN hs sg (λ b_y12 Cp hs=>have hs:=hs.enc (cs':=Flat.enc (⟨⟨none,0,0⟩,0,0,0⟩:dP)) rfl;aI (x:=(⟨C3,(y).to,(y).e,(y).at_⟩:dP)) hs fT rfl rfl (λ Iv hs=>aA tU (aB (v:=.int .i64 (y).e) nq hs.hb rfl (cQ (aC (λ oI=>?_) (λ oI=>?_))))))
     ·refine aD fT hs.At (aI (x:=(⟨C3,(y).to,(y).e,(y).at_⟩:dP)) hs.p5 fT rfl rfl (λ Jy hs=>aD fT hs.At ?_));have hR:r=(⟨(y).l,(y).to,(y).e,(y).at_⟩:fE):=hye oI;rw [hR];have hs:=hs.p2.dN (Ψ:=(λ w=>bZ.dr w (⟨C3,(y).to,(y).e,(y).at_⟩:dP) (⟨(y).l,(y).to,(y).e,(y).at_⟩:fE))) (λ w h=>⟨_,rfl,kX (h)⟩);have hs:=(((((hs.p1.drop.p1.drop.p1).drop).p1).drop).p1).drop;exact ⟨_,rfl,hs.fresh⟩
     ·refine aA nX (aB (v:=.int .i64 (x).to) bL hs.p3.hb rfl (aQ fD (hL.ext hs.aF) (by omega) ht (λ _ Lo=>bT (t).at_ lg Lo rfl rfl (λ _ arK=>aD bL (arK) (pop (DH _ _) (bW ([(⟨(Fa l x.to n k),0,(ByteArray.mk #[]),(t).at_⟩:cY)]) hs lX rfl rfl (eI rfl) (λ afy KG hs=>aA q8 (aB (v:=Flat.val (g:SV)) mU hs.p4.hb rfl ?_))))))));have Nt:=(hyn (by omega)).1;have akN:=(DL.flat (id (hs.p5).eU));refine cN hs lX akN (by simp; omega) (by decide) (λ aqb MH hs=>aA q8 (aB (v:=Flat.val (C3:SV)) mU hs.p1.hb rfl ?_));have akO:=(DL.flat (kX (hs.p2).eU))
      refine cN hs lX akO (by simp; omega) (by decide) (λ s_x82 Qv hs=>aA nX (aB (v:=.int .i64 (y).to) bL hs.p1.hb rfl ?_));obtain ⟨Fc,rfl⟩:=(hs).fR;refine pop (yy _ _ _ _) (aI (x:=(⟨Fc,(y).to,0,0⟩:dP)) hs.p4 fT rfl rfl (λ To hs=>aH (aC (λ Ey=>?_) (λ Ey=>?_))))
      ·refine aD fT hs.At (aI (x:=(⟨Fc,(y).to,0,0⟩:dP)) hs.p6 fT rfl rfl (λ VM hs=>aD fT hs.At ?_));have hR:r=(⟨(([(⟨(Fa l x.to n k),0,(ByteArray.mk #[]),(t).at_⟩:cY)]++(x).l)++(y).l),(y).to,0,0⟩:fE):=((hyn (by omega)).2.1 Ey).trans (by rw [← jQ]);rw [hR];have hs:=hs.p2.freeze.dN (Ψ:=(λ w=>bZ.dr w (⟨Fc,(y).to,0,0⟩:dP) (⟨(([(⟨(Fa l x.to n k),0,(ByteArray.mk #[]),(t).at_⟩:cY)]++(x).l)++(y).l),(y).to,0,0⟩:fE))) (λ w h=>⟨_,rfl,DL.fp h⟩);have hs:=((((((hs.p1.drop.p1.drop.p1.drop).p1).drop).p1).drop).p1).drop;exact ⟨_,rfl,hs.fresh⟩
      ·have hs:=hs.p1.freeze.dN (Ψ:=λ w=>DL w (Flat.val Fc) ([(⟨Fa l x.to n k,0,ByteArray.mk #[],t.at_⟩:cY)]++x.l++y.l)) (λ w h=>DL.fp h);have hs:=((((hs.p2.drop.p2.drop.p2.drop.p2).drop).p2).p1).p2;have vu:=(hyn (by omega)).2.2 Ey;rw [← jQ] at vu;exact ⟨_,by omega,⟨_,_,_,_⟩,Fc,vu,hs⟩
  ·refine aD fT hs.At (aI (x:=(⟨g,(x).to,(x).e,(x).at_⟩:dP)) hs.p2 fT rfl rfl (λ Tp hs=>aD fT hs.At ?_));have hR:r=(⟨(x).l,(x).to,(x).e,(x).at_⟩:fE):=adE (x:=x) L7 (by omega);rw [hR];have hs:=hs.p2.dN (Ψ:=(λ w=>bZ.dr w (⟨g,(x).to,(x).e,(x).at_⟩:dP) (⟨(x).l,(x).to,(x).e,(x).at_⟩:fE))) (λ w h=>⟨_,rfl,id (h)⟩);have hs:=((hs.p1.drop).p1).drop;exact ⟨_,rfl,hs.fresh⟩
theorem akP {l:List bF} (hk:iu l):∀ j,akt l (Hi l j)
 | 0=>λ lv i d n r w hL hr=>by cases hr
 | j+1=>λ lv i d n r w hL hr h0 hd hn=>⟨C235 l j lv i d n r w hL hk (akP hk j) h0 hd hn hr,λ h5=>by subst h5; exact C257 l (Hi l j) lv i d r w hL hk (akP hk j) h0 hd (ags hr)⟩
theorem C214 (l:List bF) (lv:Value) (i:Int) (R:List cY × Int × Int × Int) (w:World) (hL:eJ (λ _=>True) w lv l) (hk:iu l) (Tq:i≤l.length) (hr:vx l i=some R):CR 214 [lv,.int .i64 i] w (λ v w'=>∃ sv:SV,v = .tuple #[Flat.val sv,.int .i64 R.2.1,.int .i64 R.2.2.1,.int .i64 R.2.2.2]∧lY (eU (λ w=>DL w (Flat.val sv) R.1)) w w'):=by
 have Fy:=hk.n;have hn:l.length≤1000000:=by omega
 have sW:=hk.at_;have hs:=St.start w;refine aax _ _ _ _ ?_;unfold S214;refine aR (aC (λ fO=>?_) (λ fO=>?_))
 ·have hR:R=([],0,1,0):=by
   unfold vx at hr; rw [if_pos fO] at hr; exact (Option.some.inj hr).symm
  rw [hR];exact ⟨⟨none,0,0⟩,rfl,(hs.gF (Φ:=λ w=>DL w (Flat.val (⟨none,0,0⟩:SV)) ([]:List cY)) λ w=>DL.nil w).fresh⟩
 ·obtain ⟨x,hx,Gl⟩:=Xy hr (by omega);refine eD PC ((akP hk 10000 _ i 0 0 x _ (hL.ext hs.aF) hx (by omega) (by omega) (by omega)).1) ?_;rintro _ w1 ⟨ayX,rfl,bY⟩;have hs:=hs.made bY;obtain ⟨xt,akQ,_⟩:=(hs).eU;subst akQ;refine aN hs sg (λ Bl w2 hs=>have hs:=hs.enc (cs':=Flat.enc (⟨⟨none,0,0⟩,0,0,0⟩:dP)) rfl;aI (x:=(⟨xt,(x).to,(x).e,(x).at_⟩:dP)) hs fT rfl rfl (λ w3 hs=>aA tU (aB (v:=.int .i64 (x).e) nq hs.hb rfl (cQ (aC (λ eB=>?_) (λ eB=>?_))))))
  ·refine aA tU (have hs:=hs.drew;aB (v:=.int .i64 (x).e) nq hs.hb rfl (aA Ug (aB (v:=.int .i64 (x).at_) bL hs.hb rfl ?_)))
   have hR:R=([],0,x.e,x.at_):=by
    rw [if_pos eB] at Gl; exact (Option.some.inj Gl).symm
   rw [hR];exact ⟨⟨none,0,0⟩,rfl,(hs.gF (Φ:=λ w=>DL w (Flat.val (⟨none,0,0⟩:SV)) ([]:List cY)) λ w=>DL.nil w).fresh⟩
  ·rw [if_neg eB] at Gl;obtain ⟨tr,tk,htr,SK,Pe,hr3⟩:=OH Gl;have htki:=(List.getElem?_eq_some_iff.1 SK).1;obtain ⟨hwf,Bd⟩:=yC htr;have hAt:Jz x.l 0 tr:=⟨by omega,hwf,[],by simpa using Bd⟩;refine aA q8 (aB (v:=Flat.val (xt:SV)) mU hs.hb rfl (aZ T6 hs (C162 _ x.l 0 tr (tr.size+1) _ (DL.flat (kX (hs.p1).eU)) (by omega) hAt (by omega)) (λ w4 he hs=>dB (aC (λ iB=>?_) (λ iB=>?_)))))
   ·refine aQ fD (hL.ext hs.aF) (by omega) SK (λ _ we=>bT (tk).at_ lg we rfl rfl (λ _ wj=>have hs:=hs.drew;aD bL (wj) ?_))
    have hR:R=([],0,7,tk.at_):=by
     rw [if_pos iB] at hr3; exact (Option.some.inj hr3).symm
    rw [hR];exact ⟨⟨none,0,0⟩,rfl,(hs.gF (Φ:=λ w=>DL w (Flat.val (⟨none,0,0⟩:SV)) ([]:List cY)) λ w=>DL.nil w).fresh⟩
   ·refine aA q8 (aB (v:=Flat.val (xt:SV)) mU hs.hb rfl (aJ lX (DL.flat (kX (hs.p1).eU)) (dB (aC (λ nB=>?_) (λ nB=>?_)))))
    ·refine aQ fD (hL.ext hs.aF) (by omega) SK (λ _ ua=>bT (tk).at_ lg ua rfl rfl (λ _ zY=>have hs:=hs.drew;aD bL (zY) ?_))
     have hR:R=([],0,2,tk.at_):=by
      rw [if_neg iB,if_pos (by omega)] at hr3; exact (Option.some.inj hr3).symm
     rw [hR];exact ⟨⟨none,0,0⟩,rfl,(hs.gF (Φ:=λ w=>DL w (Flat.val (⟨none,0,0⟩:SV)) ([]:List cY)) λ w=>DL.nil w).fresh⟩
    ·refine aA q8 (have hs:=hs.drew;aB (v:=Flat.val (xt:SV)) mU hs.hb rfl (aA nX (aB (v:=.int .i64 (x).to) bL hs.hb rfl ?_)));have hs:=hs.p1.dN (Ψ:=λ w=>DL w (Flat.val xt) x.l) (λ w h=>kX h)
     have hR:R=(x.l,x.to,0,0):=by
      rw [if_neg iB,if_neg (by omega)] at hr3; exact (Option.some.inj hr3).symm
     rw [hR];exact ⟨xt,rfl,hs.fresh⟩
end Go.Proofs.YtnjcingfdhjfkaaGreat

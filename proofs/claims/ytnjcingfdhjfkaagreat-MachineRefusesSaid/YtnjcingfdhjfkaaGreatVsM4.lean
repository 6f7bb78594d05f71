/-
  What the proof needs, part 4.
-/
import Derived.Test.YtnjcingfdhjfkaaGreatVsM3
set_option linter.all false
namespace Go.Proofs.YtnjcingfdhjfkaaGreat
open Go.Fw
theorem A9 {l:List cW} (h:jy l=true):∀ y∈l,0≤y.at_:=by
 intro y hy
 unfold jy at h
 have hn:l.any oO=false:=by grind
 rw [List.any_eq_false] at hn
 have:=hn y hy
 unfold oO at this
 grind
structure av1 (x:cE):Prop where
 kind:1≤x.kind∧x.kind≤14
 Tl:0≤x.at_∧x.at_≤4000
 e:(eo (j3 x.kind) 101=true∧jy x.e=true)∨(eo (j3 x.kind) 101=false∧x.e=[])
 f:(eo (j3 x.kind) 102=true∧jy x.f=true)∨(eo (j3 x.kind) 102=false∧x.f=[])
 gJ:(eo (j3 x.kind) 114=true∧jY x.gJ=true)∨(eo (j3 x.kind) 114=false∧x.gJ=⟨#[]⟩)
 name:(eo (j3 x.kind) 110=true∧jY x.name=true)∨(eo (j3 x.kind) 110=false∧x.name=⟨#[]⟩)
 n:(eo (j3 x.kind) 107=true∧1≤x.n∧x.n≤8)∨(eo (j3 x.kind) 107=false∧x.n=0)
theorem Ba {x:cE} (h:q9 x=true):av1 x:=by
 unfold q9 at h
 simp only [Bool.and_eq_true,Bool.not_eq_true',Bool.or_eq_false_iff,decide_eq_false_iff_not,bne_eq_false_iff_eq,Bool.and_eq_false_iff,Bool.not_eq_false',Decidable.not_not] at h
 obtain ⟨⟨⟨h1,h2⟩,h3⟩,h4⟩:=h
 constructor
 ·omega
 ·omega
 ·cases hh:eo (j3 x.kind) 101 <;> grind
 ·cases hh:eo (j3 x.kind) 102 <;> grind
 ·cases hh:eo (j3 x.kind) 114 <;> grind
 ·cases hh:eo (j3 x.kind) 110 <;> grind
 ·cases hh:eo (j3 x.kind) 107 <;> grind
theorem acf {x:cE} (h:q9 x=true):0≤x.at_∧(∀ y∈x.e,0≤y.at_)∧(∀ y∈x.f,0≤y.at_):=by
 have h:=Ba h
 refine ⟨h.Tl.1,?_,?_⟩
 ·rcases h.e with h | h
  ·exact A9 h.2
  ·rw [h.2]; simp
 ·rcases h.f with h | h
  ·exact A9 h.2
  ·rw [h.2]; simp
theorem aic:eo (j3 12) 107=true:=by decide
theorem nB {l:List cE} (h:uQ l=true):l.length≤40∧(∀ x∈l,q9 x=true)∧∃ t:Bk,l=t.flat∧t.str∧t.ok 0=true∧t.depth≤12:=by
 unfold uQ at h
 simp only [Bool.and_eq_true,decide_eq_true_eq,Bool.not_eq_true'] at h
 obtain ⟨⟨h1,h2⟩,h3⟩:=h
 rw [List.any_eq_false] at h2
 refine ⟨h1,λ x hx=>by simpa using h2 x hx,?_⟩
 unfold gB at h3
 cases hb:oP l with
 | none=>rw [hb] at h3; simp only [] at h3; omega
 | some t=>
  rw [hb] at h3
  obtain ⟨g1,g2⟩:=nq hb
  refine ⟨t,g1,g2,?_⟩
  cases ho:t.ok 0 with
  | true=>simp only [ho,if_true] at h3; exact ⟨rfl,h3.2⟩
  | false=>simp [ho] at h3
structure PF (p:cX):Prop where
 lines:∀ l∈p.lines,l≠[]∧∀ c∈l,nd 4294967296 c=false
 jP:∀ c∈p.jP,nd 4294967296 c=false
 locks:∀ c∈p.locks,nd 0 c=false
 th:∀ t∈p.threads,wc true t=false
 rc:∀ t∈p.recover,wc false t=false
 cl:∀ c∈p.cC,0≤c.at_∧jy c.e=true
 one:p.recover.length≤1
theorem wh {p:cX} (h:l4 p=true):PF p:=by
 unfold l4 sQ og at h
 simp only [Bool.and_eq_true,Bool.not_eq_true',List.any_eq_false,decide_eq_true_eq] at h
 obtain ⟨⟨h1,h2⟩,⟨⟨h3,h4⟩,h5⟩,h6⟩:=h
 refine ⟨λ l hl=>?_,λ c hc=>by simpa using h3.1 c hc,λ c hc=>by simpa using h3.2 c hc,λ t ht=>by simpa using h4 t ht,λ t ht=>by simpa using h5 t ht,λ c hc=>?_,h6⟩
 ·have:=h1 l hl
  unfold xd sQ at this
  simp only [Bool.or_eq_true,decide_eq_true_eq,not_or,Bool.not_not,List.any_eq_true,not_exists,not_and,Bool.not_eq_true] at this
  exact ⟨λ h=>this.1 (by rw [h]; rfl),this.2⟩
 ·have:=h2 c hc
  unfold tX uR at this
  simp only [Bool.or_eq_true,Bool.not_eq_true',not_or,Bool.not_eq_false,decide_eq_true_eq,decide_eq_false_iff_not,Decidable.not_not] at this
  exact ⟨this.1.1,by simpa using this.2⟩
theorem yp {nb:Bool} {t:dQ} (h:wc nb t=false):0≤t.at_∧uQ t.body=true∧(∀ s∈t.aK,jY s=true)∧jY t.name=nb:=by
 unfold wc uS uR at h
 simp only [Bool.or_eq_false_iff,Bool.not_eq_false',decide_eq_true_eq,List.any_eq_false,bne_eq_false_iff_eq] at h
 obtain ⟨⟨⟨⟨h1,_⟩,h2⟩,h3⟩,h4⟩:=h
 exact ⟨h2.1,h3,λ s hs=>by simpa using h4 s hs,h1.symm⟩
theorem re {m:Int} {c:dF} (h:nd m c=false):0≤c.at_∧jY c.name=true∧0≤c.n∧c.n≤m:=by
 unfold nd uR at h
 simp only [Bool.or_eq_false_iff,Bool.not_eq_false',decide_eq_true_eq,decide_eq_false_iff_not] at h
 exact ⟨by omega,h.1.1.1,by omega,by omega⟩
def iG (p:cX):List dQ:=p.threads++p.recover
theorem PF.nf {p:cX} (h:PF p) {t:dQ} (ht:t∈iG p):0≤t.at_∧uQ t.body=true∧∀ s∈t.aK,jY s=true:=by
 unfold iG at ht
 rcases List.mem_append.1 ht with ht | ht
 ·have:=yp (h.th t ht); exact ⟨this.1,this.2.1,this.2.2.1⟩
 ·have:=yp (h.rc t ht); exact ⟨this.1,this.2.1,this.2.2.1⟩
def pe (p:cX):List Int:=(gF p).map dF.n
def et (p:cX):Int:=(p.lines.flatten.length:Int)
theorem Va (p:cX):((gF p).length:Int) - p.jP.length=et p:=by unfold gF et; rw [List.length_append]; omega
def fb (p:cX):List ByteArray:=(gF p).map dF.name
def gY (p:cX):List ByteArray:=p.locks.map dF.name
def ir:List (List dF)→Int→Int→Int
 | [],i,a=>i+a
 | l::r,i,a=>if a<l.length then i else ir r (i+1) (a - l.length)
def l5 (p:cX) (c:Int):Int:=if c<0∨(gF p).length≤c then -1 else ir p.lines 0 c
def vl (l:List cW) (ns:List ByteArray):Bool:=l.any λ x=>decide (x.op=2) && decide (dO ns x.name<0)
def sm (x:cE) (n:Int):Int:=if x.kind=12 then n * x.n else n
def oE:Bk→Int→Bool
 | .nil,_=>false
 | .cons x a b r,n=>decide (64<sm x n) || (oE a (sm x n) || oE b (sm x n)) || oE r n
def Bk.app:Bk→Bk→Bk
 | .nil,t=>t
 | .cons x a b r,t=>.cons x a b (r.app t)
theorem Bk.D9 (a b:Bk):(a.app b).flat=a.flat++b.flat:=by
 induction a with
 | nil=>rfl
 | cons x c d r _ _ ih=>simp only [Bk.app,Bk.flat,ih,List.cons_append,List.append_assoc]
theorem Bk.acg {a b:Bk} (ha:a.str) (hb:b.str):(a.app b).str:=by
 induction a with
 | nil=>exact hb
 | cons x c d r _ _ ih=>
  obtain ⟨h1,h2,h3,h4,h5,h6,h7⟩:=ha
  exact ⟨h1,h2,h3,h4,h5,h6,ih h7⟩
theorem R3 (a b:Bk) (n:Int):oE (a.app b) n=(oE a n || oE b n):=by
 induction a with
 | nil=>simp [Bk.app,oE]
 | cons x c d r _ _ ih=>simp only [Bk.app,oE,ih,Bool.or_assoc]
def vm (l:List cE):Bool:=match oP l with | some t=>oE t 1 | none=>false
theorem yq {t:Bk} (h:t.str):vm t.flat=oE t 1:=by unfold vm; rw [oQ h]
def jz (p:cX):List dF:=gF p++p.locks++p.threads.map (λ t=>⟨t.name,0,t.at_⟩)
def CD (l:List dF) (j:Nat):Bool:=match l[j]? with | some c=>decide (dO (l.map dF.name) c.name<j) | none=>false
def rf (l:List dF):Bool:=(List.range l.length).any (CD l)
def Qe (p:cX) (rs:List ByteArray) (j:Nat):Bool:=match rs[j]? with | some s=>decide (dO rs s<j) || decide (0≤dO (fb p) s) || decide (0≤dO (gY p) s) | none=>false
def FI (p:cX) (rs:List ByteArray):Bool:=(List.range rs.length).any (Qe p rs)
theorem m6 {f:Nat→Bool} {n:Nat} (h:∀ j,j<n→f j=false):(List.range n).any f=false:=by
 rw [List.any_eq_false]; intro j hj; rw [h j (List.mem_range.1 hj)]; simp
theorem rh {f:Nat→Bool} {n j:Nat} (hj:j<n) (h:f j=true):(List.range n).any f=true:=List.any_eq_true.2 ⟨j,List.mem_range.2 hj,h⟩
theorem zO {f:Nat→Bool} {k:Nat} (h:∀ j,j<k→f j=false) (hk:f k=false):∀ j,j<k+1→f j=false:=λ j hj=>by
 rcases Nat.lt_or_ge j k with h1 | h1
 ·exact h j h1
 ·obtain rfl:j=k:=by omega
  exact hk
def om (p:cX) (rs:List ByteArray) (x:cE):Bool:=
 (decide (¬ x.gJ=⟨#[]⟩) && decide (dO rs x.gJ<0)) ||
 ((decide (x.kind=2) || decide (x.kind=3) || decide (x.kind=4)) && decide (dO (fb p) x.name<0)) ||
 ((decide (x.kind=5) || decide (x.kind=6)) && (decide (dO (fb p) x.name<0) || decide (et p≤dO (fb p) x.name))) ||
 ((decide (x.kind=9) || decide (x.kind=10)) && decide (dO (gY p) x.name<0)) || vl x.e rs || vl x.f rs
def zP (p:cX):Bool:=p.lines.any (λ l=>decide (4<(l.length:Int))) || (iG p).any (λ t=>decide (4<(t.aK.length:Int))) ||
 (decide (4<(p.lines.length:Int)) || decide (4<(p.jP.length:Int)) || decide (2<(p.locks.length:Int)) || decide ((p.threads.length:Int)<1) || decide (3<(p.threads.length:Int)) || decide (4<(p.cC.length:Int)))
def oR (p:cX):List ByteArray:=(fb p).take (et p).toNat
def gK (p:cX):Int:=
 if l4 p=false then 8 else if zP p=true then 2 else if (iG p).any (λ t=>vm t.body)=true then 11 else if rf (jz p)=true then 10
 else if (iG p).any (λ t=>FI p t.aK)=true then 10 else if (iG p).any (λ t=>t.body.any (om p t.aK))=true then 9
 else if p.cC.any (λ c=>vl c.e (oR p))=true then 9 else 0
theorem Ns {x:cE} (h:q9 x=true):0≤x.at_∧(x.kind=12→1≤x.n∧x.n≤8):=by
 have h:=Ba h
 refine ⟨h.Tl.1,λ hk=>?_⟩
 rcases h.n with h | h
 ·exact h.2
 ·rw [hk,aic] at h; exact absurd h.1 (by decide)
section
variable {p:cX}
theorem ce8 (h1:l4 p=false):gK p=8:=by unfold gK; rw [if_pos h1]
theorem ce2 (h1:l4 p=true) (h2:zP p=true):gK p=2:=by unfold gK; rw [if_neg (by rw [h1]; decide),if_pos h2]
theorem av2 (h1:l4 p=true) (h2:zP p=false) (h3:(iG p).any (λ t=>vm t.body)=true):gK p=11:=by unfold gK; rw [if_neg (by rw [h1]; decide),if_neg (by rw [h2]; decide),if_pos h3]
theorem av3 (h1:l4 p=true) (h2:zP p=false) (h3:(iG p).any (λ t=>vm t.body)=false) (h4:rf (jz p)=true):gK p=10:=by
 unfold gK; rw [if_neg (by rw [h1]; decide),if_neg (by rw [h2]; decide),if_neg (by rw [h3]; decide),if_pos h4]
theorem aoG (h1:l4 p=true) (h2:zP p=false) (h3:(iG p).any (λ t=>vm t.body)=false) (h4:rf (jz p)=false) (h5:(iG p).any (λ t=>FI p t.aK)=true):gK p=10:=by
 unfold gK; rw [if_neg (by rw [h1]; decide),if_neg (by rw [h2]; decide),if_neg (by rw [h3]; decide),if_neg (by rw [h4]; decide),if_pos h5]
theorem ce9 (h1:l4 p=true) (h2:zP p=false) (h3:(iG p).any (λ t=>vm t.body)=false) (h4:rf (jz p)=false) (h5:(iG p).any (λ t=>FI p t.aK)=false)
  (h6:(iG p).any (λ t=>t.body.any (om p t.aK))=true):gK p=9:=by
 unfold gK; rw [if_neg (by rw [h1]; decide),if_neg (by rw [h2]; decide),if_neg (by rw [h3]; decide),if_neg (by rw [h4]; decide),if_neg (by rw [h5]; decide),if_pos h6]
theorem av4 (h1:l4 p=true) (h2:zP p=false) (h3:(iG p).any (λ t=>vm t.body)=false) (h4:rf (jz p)=false) (h5:(iG p).any (λ t=>FI p t.aK)=false)
  (h6:(iG p).any (λ t=>t.body.any (om p t.aK))=false) (h7:p.cC.any (λ c=>vl c.e (oR p))=true):gK p=9:=by
 unfold gK; rw [if_neg (by rw [h1]; decide),if_neg (by rw [h2]; decide),if_neg (by rw [h3]; decide),if_neg (by rw [h4]; decide),if_neg (by rw [h5]; decide),if_neg (by rw [h6]; decide),if_pos h7]
theorem ce0 (h1:l4 p=true) (h2:zP p=false) (h3:(iG p).any (λ t=>vm t.body)=false) (h4:rf (jz p)=false) (h5:(iG p).any (λ t=>FI p t.aK)=false)
  (h6:(iG p).any (λ t=>t.body.any (om p t.aK))=false) (h7:p.cC.any (λ c=>vl c.e (oR p))=false):gK p=0:=by
 unfold gK; rw [if_neg (by rw [h1]; decide),if_neg (by rw [h2]; decide),if_neg (by rw [h3]; decide),if_neg (by rw [h4]; decide),if_neg (by rw [h5]; decide),if_neg (by rw [h6]; decide),if_neg (by rw [h7]; decide)]
theorem PF.decl (h:PF p):∀ c∈jz p,0≤c.at_:=by
 intro c hc
 unfold jz gF at hc
 rcases List.mem_append.1 hc with hc | hc
 ·rcases List.mem_append.1 hc with hc | hc
  ·rcases List.mem_append.1 hc with hc | hc
   ·obtain ⟨l,hl,hc⟩:=List.mem_flatten.1 hc
    exact (re ((h.lines l hl).2 c hc)).1
   ·exact (re (h.jP c hc)).1
  ·exact (re (h.locks c hc)).1
 ·obtain ⟨t,ht,rfl⟩:=List.mem_map.1 hc
  exact (yp (h.th t ht)).1
theorem R4 (hz:PS p):(jz p).length≤252000:=by
 have:=m4 hz
 have:=hz.locks
 have:=hz.threads
 unfold jz; simp only [List.length_append,List.length_map]; omega
theorem l6 (hz:PS p):(fb p).length≤250500:=by unfold fb; rw [List.length_map]; exact m4 hz
theorem Qf (hz:PS p):(iG p).length≤1000:=by
 have:=hz.threads
 have:=hz.recover
 unfold iG; rw [List.length_append]; omega
theorem PZ.nf (hz:PZ p) {t:dQ} (ht:t∈iG p):SzT t∧t.aK.length≤500∧t.body.length≤500:=by
 refine ⟨?_,hz.aK t ht,hz.body t ht⟩
 rcases List.mem_append.1 ht with h | h
 ·exact hz.zt t h
 ·exact hz.zr t h
end
theorem C93 (p:cX) (pv:bN) (w:World) (hp:cA.dr w pv p) (hz:PZ p):CR 93 [Flat.val pv] w (λ v w'=>v = .bool (l4 p)∧Ext w w'):=by
 obtain ⟨bH,bQ,bI,aT,aU,aY,rfl,cI,cY,cJ,bR,bO,cB⟩:=hp;have hs:=St.start w;refine ahx _ _ _ ?_;unfold S93;refine dE hs (λ kD w1 hs=>?_);refine ⟨λ m x w1=>∃ k:Nat,x = .int .i64 (k:Int)∧m=p.lines.length - k∧k≤p.lines.length∧(∀ y∈p.lines.take k,xd y=false)∧St w bD [cD kD (Flat.enc (⟨bH,bQ,bI,aT,aU,aY⟩:bN))] w1,⟨_,0,rfl,rfl,Nat.zero_le _,by simp,hs⟩,?_⟩;rintro m _ w2 ⟨k,rfl,rfl,hk,fS,hs⟩ fy;have hzl:=hz.lines;refine aA jm (aB rO hs.hb rfl ?_);obtain ⟨av5,aid,aoH⟩:=(cI).open
 have aoI:=aoH.1;refine aJ vv (aid.ext hs.aF) (aR (aC (λ gu=>?_) (λ gu=>?_)))
 ·obtain ⟨pG,jQ⟩:∃ xx,av5[((k:Int)).toNat]? = some xx:=⟨_,List.getElem?_eq_getElem (by omega)⟩;obtain ⟨mA,oS⟩:∃ xx,((p).lines)[((k:Int)).toNat]? = some xx:=⟨_,List.getElem?_eq_getElem (by omega)⟩;have aoJ:DL w (Flat.val pG) mA:=aoH.2 _ _ _ jQ oS;refine ⟨λ jv w'=>jv = .bool (xd mA)∧St w bD [cD kD (Flat.enc (⟨bH,bQ,bI,aT,aU,aY⟩:bN))] w',?_,?_⟩
  ·refine aA jm (aB rO hs.hb rfl (aQ vv (aid.ext hs.aF) (by omega) jQ (λ _ qX=>aD jt (qX) ?_)));have aoK:=DL.flat (aoJ);refine aJ j0 (aoK.ext hs.aF) (aH (aC (λ gd=>?_) (λ gd=>?_)))
   ·exact ⟨vb (by unfold xd; grind),hs⟩
   ·refine aA jm (aB rO hs.hb rfl (aQ vv (aid.ext hs.aF) (by omega) jQ (λ _ pI=>aD jt (pI) (aZ T1 hs (C155 _ _ _ _ (aoK.ext hs.aF) (by have:=hz.line _ (List.mem_of_getElem? oS); omega) (hz.zl _ (List.mem_of_getElem? oS))) (λ w3 he hs=>bY ?_)))));exact ⟨vb (by unfold xd; grind),hs⟩
  ·rintro _ w4 ⟨rfl,hs⟩ jw;refine aX (λ gh=>?_) (λ gh=>?_)
   ·refine ⟨vb ?_,hs.drop.aF⟩;unfold l4;rw [jx oS gh]; rfl
   ·refine aO (by omega) ?_;exact ⟨_,by omega,k+1,rfl,rfl,by omega,eC fS oS gh,hs⟩
 ·have aoL:=fS;refine ⟨λ m x w1=>∃ kb:Nat,x = .int .i64 (kb:Int)∧m=p.cC.length - kb∧kb≤p.cC.length∧(∀ y∈p.cC.take kb,tX y=false)∧St w bD [cD kD (Flat.enc (⟨bH,bQ,bI,aT,aU,aY⟩:bN))] w1,⟨_,0,rfl,rfl,Nat.zero_le _,by simp,hs⟩,?_⟩;rintro m _ w5 ⟨kb,rfl,rfl,hkb,Nt,hs⟩ oN;have hzc:=hz.cC;refine aA kJ (aB sM hs.hb rfl ?_);obtain ⟨av6,aie,aoM⟩:=(cB).open;have hn13:=aoM.1;refine aJ yk (aie.ext hs.aF) (aR (aC (λ jH=>?_) (λ jH=>?_)))
  ·obtain ⟨KT,Bb⟩:∃ xx,av6[((kb:Int)).toNat]? = some xx:=⟨_,List.getElem?_eq_getElem (by omega)⟩;obtain ⟨ae5,Ea⟩:∃ xx,((p).cC)[((kb:Int)).toNat]? = some xx:=⟨_,List.getElem?_eq_getElem (by omega)⟩;obtain ⟨ach,rfl,aci⟩:=aoM.2 _ _ _ Bb Ea;refine ⟨λ jv w'=>jv = .bool (tX ae5)∧St w bD [cD kD (Flat.enc (⟨bH,bQ,bI,aT,aU,aY⟩:bN))] w',?_,?_⟩
   ·refine aA kJ (aB sM hs.hb rfl (aQ yk (aie.ext hs.aF) (by omega) Bb (λ _ Eb=>bP (ae5).at_ PC Eb rfl rfl (λ _ tY=>aD bL (tY) (aZ Pj hs (C156 _ _) (λ w6 he hs=>bY (aX (λ mB=>?_) (λ mB=>?_))))))))
    ·exact ⟨vb (by unfold tX; grind),hs⟩
    ·refine aA kJ (aB sM hs.hb rfl (aQ yk (aie.ext hs.aF) (by omega) Bb (λ _ DW=>bP ach Cy DW rfl rfl (λ _ U1=>aD mR (U1) ?_))));have av7:=DL.flat (aci);refine aZ JR hs (C105 _ _ _ (av7.ext hs.aF) (hz.zc _ (List.mem_of_getElem? Ea)).1 (hz.zc _ (List.mem_of_getElem? Ea)).2) (λ w7 he hs=>bY ?_);exact ⟨vb (by unfold tX; grind),hs⟩
   ·rintro _ w8 ⟨rfl,hs⟩ GF;refine aX (λ sn=>?_) (λ sn=>?_)
    ·refine ⟨vb ?_,hs.drop.aF⟩;unfold l4;rw [jx Ea sn]; simp
    ·refine aO (by omega) ?_;exact ⟨_,by omega,kb+1,rfl,rfl,by omega,eC Nt Ea sn,hs⟩
  ·refine ⟨λ jv w'=>jv = .bool (sQ 4294967296 p.jP && sQ 0 p.locks && og true p.threads && og false p.recover && decide (p.recover.length≤1))∧St w bD [cD kD (Flat.enc (⟨bH,bQ,bI,aT,aU,aY⟩:bN))] w',?_,?_⟩
   ·refine aA uG (aB jt hs.hb rfl ?_);have av8:=DL.flat (cY);refine aZ T1 hs (C155 _ _ _ _ (av8.ext hs.aF) (by have:=hz.jP; omega) hz.zv) (λ w9 he hs=>aX (λ Ec=>?_) (λ Ec=>?_))
    ·refine aA rT (aB jt hs.hb rfl ?_);have av9:=DL.flat (cJ);refine aZ T1 hs (C155 _ _ _ _ (av9.ext hs.aF) (by have:=hz.locks; omega) hz.zk) (λ pQ he hs=>aX (λ aoN=>?_) (λ aoN=>?_))
     ·refine aA nc (aB ja hs.hb rfl (aZ aep hs (C157 _ _ true _ (bR.ext hs.aF) (by have:=hz.threads; omega) (λ t ht=>hz.nf (List.mem_append_left _ ht))) (λ sP he hs=>aX (λ qm=>?_) (λ qm=>?_))))
      ·refine aA rU (aB ja hs.hb rfl (aZ aep hs (C157 _ _ false _ (bO.ext hs.aF) (by have:=hz.recover; omega) (λ t ht=>hz.nf (List.mem_append_right _ ht))) (λ vi he hs=>aX (λ aoO=>?_) (λ aoO=>?_))))
       ·refine aA rU (aB ja hs.hb rfl ?_);obtain ⟨ts17,awa,awb⟩:=(bO).open;have hn17:=awb.1;refine aJ iJ (awa.ext hs.aF) (j4 ?_);exact ⟨vb (by grind),hs⟩
       ·exact ⟨vb (by grind),hs⟩
      ·exact ⟨vb (by grind),hs⟩
     ·exact ⟨vb (by grind),hs⟩
    ·exact ⟨vb (by grind),hs⟩
   ·rintro _ vj ⟨rfl,hs⟩ R0;refine ⟨vb ?_,hs.drop.aF⟩;unfold l4;rw [iF (by rw [List.take_of_length_le (by omega)] at aoL; exact aoL),iF (by rw [List.take_of_length_le (by omega)] at Nt; exact Nt)]; rfl
theorem C42 (p:cX) (pv:bN) (w:World) (hp:cA.dr w pv p) (hz:PZ p):CR 42 [Flat.val pv] w (λ v w'=>lW (bK v (pe p)) w w'):=by
 obtain ⟨bH,bQ,bI,aT,aU,aY,rfl,cI,cY,cJ,bR,bO,cB⟩:=hp;have hs:=St.start w;refine agT _ _ _ ?_;unfold S42;refine dE hs (λ kD w1 hs=>bW (([]:List Int)) hs ee rfl rfl (eF rfl) (λ acj w2 hs=>aD gI hs.p1.At (dB JP hs (C102 p _ _ ⟨bH,bQ,bI,aT,aU,aY,rfl,(cI).ext hs.aF,(cY).ext hs.aF,(cJ).ext hs.aF,(bR).ext hs.aF,(bO).ext hs.aF,(cB).ext hs.aF⟩ hz.toPS) (λ x8 w3 bZ hs=>?_))));have hs:=hs.p2.p1.p2;refine ⟨λ m y x w1=>∃ k:Nat,x = .int .i64 (k:Int)∧m=(gF p).length - k∧k≤(gF p).length∧St w bD [bK y (((gF p).take k).map dF.n),bK x8 (gF p),cD kD (Flat.enc (⟨bH,bQ,bI,aT,aU,aY⟩:bN))] w1,⟨_,0,rfl,rfl,by omega,hs⟩,?_⟩
 rintro m fV _ w4 ⟨k,rfl,rfl,hk,hs⟩ fy;have hac:=m4 hz.toPS;have hml:(((gF p).take k).map dF.n).length=k:=by rw [List.length_map,List.length_take]; omega
 refine aJ j0 (hs.p1).fK (aR (aC (λ jW=>?_) (λ jW=>?_)))
 ·obtain ⟨qY,jk⟩:=gx ((gF p)) (i:=((k:Int)).toNat) (by omega);refine dS hs.p1 j0 (by omega) (by omega) (λ _ v8=>mZ zq v8 (λ _ jI=>nX (qY).n hs.p1 bL jI jk rfl (bW (([(qY).n]:List Int)) hs ee rfl rfl (eF rfl) (λ s_x21 w5 hs=>?_))));have aif:=(hs).fK;refine cN hs.p1 ee aif (by simp <;> omega) (by decide) (λ aoP w6 hs=>have hs:=hs.p1.drop;aO (by omega) ?_);have hs:=hs.p2.p2.p2;exact ⟨_,by omega,k+1,rfl,rfl,by omega,by rw [← iP (k:=k) jk]; exact hs⟩
 ·have hs:=hs.p1.drop.p1.drop;rw [List.take_of_length_le (by omega)] at hs;exact hs.fresh
theorem C46 (p:cX) (pv:bN) (w:World) (hp:cA.dr w pv p) (hz:PZ p):CR 46 [Flat.val pv] w (λ v w'=>lW (bK v (fb p)) w w'):=by
 obtain ⟨bH,bQ,bI,aT,aU,aY,rfl,cI,cY,cJ,bR,bO,cB⟩:=hp;have hs:=St.start w;refine agY _ _ _ ?_;unfold S46;refine dE hs (λ kD w1 hs=>aD gI hs.At (dB JP hs (C102 p _ _ ⟨bH,bQ,bI,aT,aU,aY,rfl,(cI).ext hs.aF,(cY).ext hs.aF,(cJ).ext hs.aF,(bR).ext hs.aF,(bO).ext hs.aF,(cB).ext hs.aF⟩ hz.toPS) (λ x4 w2 bZ hs=>dB TX hs (C107 _ _ _ (hs).fK (by have:=m4 hz.toPS; omega)) (λ x5 w3 bZ hs=>?_))));have hs:=((hs.p1.drop).p1).drop;exact hs.fresh
theorem C99 (p:cX) (pv:bN) (w:World) (hp:cA.dr w pv p) (hz:PZ p):CR 99 [Flat.val pv] w (λ v w'=>lW (bK v (gY p)) w w'):=by
 obtain ⟨bH,bQ,bI,aT,aU,aY,rfl,cI,cY,cJ,bR,bO,cB⟩:=hp;have hs:=St.start w;refine ahD _ _ _ ?_;unfold S99;refine dE hs (λ kD w1 hs=>aA rT (aB jt hs.hb rfl ?_));have awc:=DL.flat (cJ);refine dB TX hs (C107 _ _ _ (awc.ext hs.aF) (by have:=hz.locks; omega)) (λ x5 w2 bZ hs=>?_);have hs:=(hs.p1).drop;exact hs.fresh
theorem C41 (p:cX) (pv:bN) (w:World) (hp:cA.dr w pv p) (hz:PZ p):CR 41 [Flat.val pv] w (λ v w'=>v = .int .i64 (et p)∧Ext w w'):=by
 obtain ⟨bH,bQ,bI,aT,aU,aY,rfl,cI,cY,cJ,bR,bO,cB⟩:=hp;have hs:=St.start w;refine agS _ _ _ ?_;unfold S41;refine dE hs (λ kD w1 hs=>have hs:=hs.drew;aD gI hs.At (aA uG (aB jt hs.hb rfl ?_)));have awd:=DL.flat (cY);refine aJ j0 (awd.ext hs.aF) (dB JP hs (C102 p _ _ ⟨bH,bQ,bI,aT,aU,aY,rfl,(cI).ext hs.aF,(cY).ext hs.aF,(cJ).ext hs.aF,(bR).ext hs.aF,(bO).ext hs.aF,(cB).ext hs.aF⟩ hz.toPS) (λ x4 w2 bZ hs=>?_));refine ⟨aG jt (hs.p1.hb.cell rfl),?_⟩
 refine aJ j0 (hs).fK ?_;have hac:=m4 hz.toPS;have hzv:=hz.jP;refine gy (by omega) ?_;have hs:=((hs.drop)).drop;exact ⟨congrArg (Value.int .i64) (Va p),hs.aF⟩
theorem Vb {l:List dF} {r:List (List dF)} {i a:Int} (h:¬ a<l.length):ir (l::r) i a=ir r (i+1) (a - l.length):=by rw [ir,if_neg h]
theorem aih {x:cE} {n m:Int} (hn:1≤n∧n≤64) (h:x.kind=12→1≤x.n∧x.n≤8) (hm:m=sm x n):1≤m∧m≤512:=by
 rw [hm]; unfold sm
 split
 ·rename_i hk
  have:=h hk
  have h1:=Int.mul_le_mul (a:=1) (b:=1) hn.1 this.1 (by omega) (by omega)
  have h2:=Int.mul_le_mul (c:=64) (d:=8) hn.2 this.2 (by omega) (by omega)
  omega
 ·omega
theorem Bk.CE {t:Bk} (h:¬ (t.flat.length:Int)=0):∃ x a b r,t = .cons x a b r:=by
 cases t with
 | nil=>exact absurd rfl h
 | cons x a b r=>exact ⟨x,a,b,r,rfl⟩
theorem Bk.vu {x:cE} {a b r:Bk} (h:(Bk.cons x a b r).str) {hi lo:Int} (h1:hi=1+x.body+x.fD) (h2:lo=1):((Bk.cons x a b r).flat.take hi.toNat).drop lo.toNat=(a.app b).flat:=by
 obtain ⟨g1,g2,_⟩:=h
 have la:=a.cO
 have lb:=b.cO
 rw [Bk.D9,DZ _ (a:=1) (n:=(a.flat++b.flat).length) (by rw [List.length_append]; omega) (by omega)]
 show (a.flat++(b.flat++r.flat)).take _=_
 rw [← List.append_assoc,List.take_left]
theorem Bk.ack {x:cE} {a b r:Bk} (h:(Bk.cons x a b r).str) {hi:Int} (h1:hi=1+x.body+x.fD):(Bk.cons x a b r).flat.drop hi.toNat=r.flat:=by
 obtain ⟨g1,g2,_⟩:=h
 have la:=a.cO
 have lb:=b.cO
 have e:(Bk.cons x a b r).flat=(x::(a.flat++b.flat))++r.flat:=by simp [Bk.flat]
 rw [e,show hi.toNat=(x::(a.flat++b.flat)).length from by simp; omega,List.drop_left]
theorem GI {l:List dF} {k:Nat} {c:dF} (h:l[k]? = some c):CD l k=decide (dO (l.map dF.name) c.name<k):=by unfold CD; rw [h]
theorem Qg {p:cX} {l:List ByteArray} {k:Nat} {c:ByteArray} (h:l[k]? = some c):Qe p l k=(decide (dO l c<k) || decide (0≤dO (fb p) c) || decide (0≤dO (gY p) c)):=by unfold Qe; rw [h]
theorem Qh (a b:Bk):(a.app b).len=a.len+b.len:=by rw [← Bk.cO,Bk.D9,List.length_append,Bk.cO,Bk.cO]
theorem C43 (p:cX) (pv:bN) (c:Int) (w:World) (hp:cA.dr w pv p) (hz:PZ p):CR 43 [Flat.val pv,.int .i64 c] w (λ v w'=>v = .int .i64 (l5 p c)∧Ext w w'):=by
 obtain ⟨bH,bQ,bI,aT,aU,aY,rfl,cI,cY,cJ,bR,bO,cB⟩:=hp;have hs:=St.start w;refine agV _ _ _ _ ?_;unfold S43;refine dE hs (λ aii w1 hs=>?_);refine ⟨λ jv w'=>jv = .bool (decide (c<0) || decide (((gF p).length:Int)≤c))∧St w bD [cD aii (Flat.enc (⟨bH,bQ,bI,aT,aU,aY⟩:bN))] w',?_,?_⟩
 ·refine aR (aC (λ gn=>?_) (λ gn=>?_))
  ·exact ⟨vb (by grind),hs⟩
  ·refine aD gI hs.At (dB JP hs (C102 p _ _ ⟨bH,bQ,bI,aT,aU,aY,rfl,(cI).ext hs.aF,(cY).ext hs.aF,(cJ).ext hs.aF,(bR).ext hs.aF,(bO).ext hs.aF,(cB).ext hs.aF⟩ hz.toPS) (λ x12 w2 bZ hs=>aJ j0 (hs).fK (dG ?_)));have hs:=(hs).drop;exact ⟨vb (by grind),hs⟩
 ·rintro _ w3 ⟨rfl,hs⟩ fy;have hac:=m4 hz.toPS;refine aX (λ jG=>?_) (λ jG=>?_)
  ·refine ⟨congrArg (Value.int .i64) ?_,hs.drop.aF⟩;unfold l5;rw [if_pos (by grind)]
  ·have YE:0≤c∧c<(gF p).length:=by grind
   refine ⟨λ m y x w1=>∃ (k:Nat) (a:Int),y = .int .i64 a∧x = .int .i64 (k:Int)∧m=p.lines.length - k∧k≤p.lines.length∧0≤a∧a≤c∧ir p.lines 0 c=ir (p.lines.drop k) k a∧St w bD [cD aii (Flat.enc (⟨bH,bQ,bI,aT,aU,aY⟩:bN))] w1,⟨_,0,c,rfl,rfl,rfl,by omega,by omega,by omega,rfl,hs⟩,?_⟩;rintro m _ _ w4 ⟨k,a,rfl,rfl,rfl,hk,ha0,hac1,Qi,hs⟩ jw;have hzl:=hz.lines;refine aA jm (aB rO hs.hb rfl ?_);obtain ⟨awf,acm,aoQ⟩:=(cI).open;have awg:=aoQ.1;refine aJ vv (acm.ext hs.aF) (aR (aC (λ gr=>?_) (λ gr=>?_)))
   ·refine aA jm (aB rO hs.hb rfl ?_);obtain ⟨xW,yr⟩:=gx awf (i:=((k:Int)).toNat) (by omega);obtain ⟨aoR,Ed⟩:=gx ((p).lines) (i:=((k:Int)).toNat) (by omega);have aoS:DL w (Flat.val xW) aoR:=aoQ.2 _ _ _ yr Ed;refine aQ vv (acm.ext hs.aF) (by omega) yr (λ _ wg=>aD jt (wg) ?_);have aoT:=DL.flat (aoS);refine aJ j0 (aoT.ext hs.aF) (aR (aC (λ lK=>?_) (λ lK=>?_)))
    ·refine ⟨congrArg (Value.int .i64) ?_,hs.drop.aF⟩;rw [drop_cons (k:=k) Ed] at Qi;unfold l5;rw [if_neg (by omega),Qi];unfold ir;rw [if_pos (by omega)]
    ·refine aA jm (aB rO hs.hb rfl (aQ vv (acm.ext hs.aF) (by omega) yr (λ _ zN=>aD jt (zN) (aJ j0 (aoT.ext hs.aF) (gy (by omega) (aO (by omega) ?_))))));rw [drop_cons (k:=k) Ed,Vb (by omega)] at Qi;exact ⟨_,by omega,k+1,_,rfl,rfl,rfl,by omega,by omega,by omega,Qi,hs⟩
   ·refine aA jm (aB rO hs.hb rfl (aJ vv (acm.ext hs.aF) (aO (by omega) ?_)));refine ⟨congrArg (Value.int .i64) ?_,hs.drop.aF⟩;rw [List.drop_eq_nil_of_le (by omega)] at Qi;unfold l5;rw [if_neg (by omega),Qi];unfold ir;omega
theorem C101 (lv nv:Value) (xs:List cW) (ns:List ByteArray) (w:World) (hL:eI (λ _=>True) w lv xs) (hN:eI (λ _=>True) w nv ns) (hn:xs.length≤1048576) (hns:ns.length≤1048576) (sR:∀ y∈xs,0≤y.at_):CR 101 [lv,nv] w (λ v w'=>∃ a:Int,v = .int .i64 a∧decide (0≤a)=vl xs ns∧Ext w w'):=by
 have hs:=St.start w;refine YO _ _ _ _ ?_;unfold S101;refine ⟨λ m x w1=>∃ k:Nat,x = .int .i64 (k:Int)∧m=xs.length - k∧k≤xs.length∧(∀ y∈xs.take k,(decide (y.op=2) && decide (dO ns y.name<0))=false)∧St w bD [] w1,⟨_,0,rfl,rfl,Nat.zero_le _,by simp,hs⟩,?_⟩;rintro m _ w1 ⟨k,rfl,rfl,hk,fS,hs⟩ fy;refine aJ lP (hL.ext hs.aF) (aR (aC (λ gu=>?_) (λ gu=>?_)))
 ·obtain ⟨jj,dD⟩:∃ xx,(xs)[((k:Int)).toNat]? = some xx:=⟨_,List.getElem?_eq_getElem (by omega)⟩;refine ⟨λ jv w'=>jv = .bool (decide (jj.op=2) && decide (dO ns jj.name<0))∧St w bD [] w',?_,?_⟩
  ·refine aQ lP (hL.ext hs.aF) (by omega) dD (λ _ iN=>bP (jj).op jg iN rfl rfl (λ _ qX=>aD bL (qX) (aH (aC (λ lZ=>?_) (λ lZ=>?_)))))
   ·refine aQ lP (hL.ext hs.aF) (by omega) dD (λ _ KP=>bP (jj).name kY KP rfl rfl (λ _ pI=>aD j5 (pI) (aZ AS hs (C98 _ ns _ _ (hN.ext hs.aF) (by omega)) (λ w2 he hs=>aR ?_))));exact ⟨vb (by grind),hs⟩
   ·exact ⟨vb (by grind),hs⟩
  ·rintro _ w3 ⟨rfl,hs⟩ jw;refine aX (λ gh=>?_) (λ gh=>?_)
   ·refine aQ lP (hL.ext hs.aF) (by omega) dD (λ _ od=>bP (jj).at_ Dq od rfl rfl (λ _ oD=>aD bL (oD) ?_));exact ⟨_,rfl,by unfold vl; rw [jx dD gh]; exact decide_eq_true (sR _ (List.mem_of_getElem? dD)),hs.aF⟩
   ·refine aO (by omega) ?_;exact ⟨_,by omega,k+1,rfl,rfl,by omega,eC fS dD gh,hs⟩
 ·rw [List.take_of_length_le (by omega)] at fS;exact ⟨_,rfl,by unfold vl; rw [iF fS]; rfl,hs.aF⟩
theorem C96 (lv:Value) (t:Bk) (n:Int) (N:Nat) (w:World) (hL:DL w lv t.flat) (gk:t.str) (hq:∀ x∈t.flat,0≤x.at_∧(x.kind=12→1≤x.n∧x.n≤8)) (hn:1≤n∧n≤64) (hl:t.len≤1048576) (hN:t.len<N):CR 96 [lv,.int .i64 n] w (λ v w'=>∃ a:Int,v = .int .i64 a∧decide (0≤a)=oE t n∧Ext w w'):=by
 have Ca:=t.cO;have hs:=St.start w;refine ahA _ _ _ _ ?_;unfold S96;obtain ⟨awh,R5,acn⟩:=(hL).open;have hn22:=acn.1;refine aJ j1 (R5.ext hs.aF) (aH (aC (λ gO=>?_) (λ gO=>?_)))
 ·cases t with
  | nil=>exact ⟨_,rfl,rfl,hs.aF⟩
  | cons x a b r=>exact absurd Ca (by rw [show (Bk.cons x a b r).len=a.len+b.len+r.len+1 from rfl]; omega)
 ·obtain ⟨x,a,b,r,rfl⟩:=Bk.CE (t:=t) (by omega);obtain ⟨UI,A5⟩:=gx awh (i:=((0:Int)).toNat) (by omega);obtain ⟨l7,Vc⟩:=gx ((Bk.cons x a b r).flat) (i:=((0:Int)).toNat) (by omega);obtain ⟨Qj,Qk,rfl,asN,asO⟩:=acn.2 _ _ _ A5 Vc;refine aQ j1 (R5.ext hs.aF) (by omega) A5 (λ _ KD=>?_);obtain rfl:l7=x:=(Option.some.inj Vc).symm;have hqx:=hq l7 (by simp [Bk.flat]);have KU:=gk;obtain ⟨Fl,hg2,hg3,hg4,Vd,hgb,hgr⟩:=KU;have Tm:a.len+b.len+r.len+1≤1048576:=hl;have hNn:a.len+b.len+r.len+1<N:=hN;have Mw:=a.cO;have Qd:=b.cO;have hlr:=r.cO
  have Qi:(Bk.cons l7 a b r).flat.length=a.len+b.len+r.len+1:=Bk.cO _;refine aD fW (KD) (aN hs qu (λ ua w1 hs=>aI (x:=(⟨(l7).kind,(l7).gJ,(l7).name,Qj,Qk,(l7).n,(l7).body,(l7).fD,(l7).at_⟩:bX)) hs fW rfl rfl (λ w2 hs=>?_)));refine ⟨λ jv w'=>∃ m:Int,jv = .int .i64 m∧m=sm l7 n∧St w bD [cD ua (Flat.enc (⟨(l7).kind,(l7).gJ,(l7).name,Qj,Qk,(l7).n,(l7).body,(l7).fD,(l7).at_⟩:bX))] w',?_,?_⟩
  ·refine aA fw (aB (v:=.int .i64 ((l7).kind)) bL hs.hb rfl (aH (aC (λ gd=>?_) (λ gd=>?_))))
   ·refine aA tL (aB (v:=.int .i64 ((l7).n)) bL hs.hb rfl (Px (by have xE:=hqx.2 gd; have h1:=Int.mul_le_mul (a:=1) (b:=1) hn.1 xE.1 (by omega) (by omega); have h2:=Int.mul_le_mul (c:=64) (d:=8) hn.2 xE.2 (by omega) (by omega); omega) ?_));exact ⟨_,rfl,by grind [sm],hs⟩
   ·exact ⟨_,rfl,by grind [sm],hs⟩
  ·rintro _ w3 ⟨m,rfl,hm,hs⟩ fy;have hm8:=aih hn hqx.2 hm;refine cZ (aC (λ ib=>?_) (λ ib=>?_))
   ·refine aA qQ (aB (v:=.int .i64 ((l7).at_)) bL hs.hb rfl ?_);exact ⟨_,rfl,by unfold oE; rw [← hm,decide_eq_true (show (64:Int)<m by omega)]; exact decide_eq_true hqx.1,hs.drop.aF⟩
   ·refine aA mV (aB (v:=.int .i64 ((l7).body)) bL hs.hb rfl (aO (by omega) (aA iK (aB (v:=.int .i64 ((l7).fD)) bL hs.hb rfl (aO (by omega) (kn j1 (R5.ext hs.aF) (by omega) (by omega) (by omega) (λ aoU aim=>?_)))))));have ain:=DL.cut aim R5 acn;refine ey ahF (C96 _ (a.app b) m (N - 1) _ (by have h:=ain.ext hs.aF; rw [Bk.vu gk (by omega) (by omega)] at h; exact h) (Bk.acg Vd hgb) (λ y hy=>hq y (by rw [Bk.D9] at hy; simp only [Bk.flat,List.mem_cons,List.mem_append]; rcases List.mem_append.1 hy with h | h <;> simp [h])) (by omega) (by rw [Qh]; omega) (by rw [Qh]; omega)) ?_
    rintro _ w4 ⟨a1,rfl,ha1,he⟩;have hs:=hs.ext he;rw [R3] at ha1;refine dG (aC (λ sg=>?_) (λ sg=>?_))
    ·exact ⟨_,rfl,by unfold oE; rw [← hm]; rw [decide_eq_true sg] at ha1; rw [← ha1,decide_eq_true sg]; simp,hs.drop.aF⟩
    ·refine uL j1 (R5.ext hs.aF) (by omega) (by omega) (λ aoV aio=>?_);have aip:=DL.PO aio R5 acn;refine ey ahF (C96 _ r n (N - 1) _ (by have h:=aip.ext hs.aF; rw [Bk.ack gk (by omega)] at h; exact h) hgr (λ y hy=>hq y (by simp [Bk.flat,hy])) hn (by omega) (by omega)) ?_;rintro _ w5 ⟨a2,rfl,Yg,he⟩;have hs:=hs.ext he;exact ⟨_,rfl,by unfold oE; rw [← hm]; rw [← ha1,Yg,decide_eq_false (show ¬ (64:Int)<m by omega),decide_eq_false sg]; rfl,hs.drop.aF⟩
termination_by N
decreasing_by all_goals omega
theorem C95 (p:cX) (pv:bN) (ts3 ts4:List eg) (w:World) (hp:cA.dr w pv p) (h3:eI (λ _=>True) w (Flat.val pv.threads) ts3) (h4:eI (λ _=>True) w (Flat.val pv.recover) ts4) (hz3:ts3.length≤500) (hz4:ts4.length≤500):CR 95 [Flat.val pv] w (λ v w'=>lW (bK v (ts3++ts4)) w w'):=by
 obtain ⟨bH,bQ,bI,aT,aU,aY,rfl,cI,cY,cJ,bR,bO,cB⟩:=hp;have hs:=St.start w;refine ahz _ _ _ ?_;unfold S95;refine dE hs (λ kD w1 hs=>bW (([]:List eg)) hs iJ rfl rfl (eF rfl) (λ awn w2 hs=>aA nc (aB ja hs.p1.hb rfl ?_)));have zQ:=(h3.ext hs.aF);refine cN hs iJ zQ (by simp <;> omega) (by decide) (λ KV w3 hs=>aA rU (aB ja hs.p1.hb rfl ?_));have uO:=(h4.ext hs.aF);refine cN hs iJ uO (by simp; omega) (by decide) (λ aeX w4 hs=>?_);have hs:=(hs.p1).drop;exact hs.fresh
theorem C97 (p:cX) (pv:bN) (w:World) (hp:cA.dr w pv p) (hz:PZ p) (sR:∀ c∈jz p,0≤c.at_):CR 97 [Flat.val pv] w (λ v w'=>∃ a:Int,v = .int .i64 a∧decide (0≤a)=rf (jz p)∧Ext w w'):=by
 obtain ⟨bH,bQ,bI,aT,aU,aY,rfl,cI,cY,cJ,bR,bO,cB⟩:=hp;have hs:=St.start w;refine ahB _ _ _ ?_;unfold S97;refine dE hs (λ kD w1 hs=>bW (([]:List dF)) hs j0 rfl rfl (eF rfl) (λ KV w2 hs=>aD gI hs.p1.At (dB JP hs (C102 p _ _ ⟨bH,bQ,bI,aT,aU,aY,rfl,(cI).ext hs.aF,(cY).ext hs.aF,(cJ).ext hs.aF,(bR).ext hs.aF,(bO).ext hs.aF,(cB).ext hs.aF⟩ hz.toPS) (λ x9 w3 bZ hs=>?_))));have aiq:=(hs).fK;refine cN hs.p1 j0 aiq (by simp; have:=m4 hz.toPS; omega) (by decide) (λ aom w4 hs=>have hs:=hs.p1.drop;aA rT (aB jt hs.p1.hb rfl ?_))
 have awo:=DL.flat (cJ);have jR:=(awo.ext hs.aF);refine cN hs j0 jR (by simp; have:=m4 hz.toPS; have:=hz.locks; omega) (by decide) (λ s_x14 w5 hs=>?_);have hs:=hs.p1.p1;refine ⟨λ m y x w1=>∃ k:Nat,x = .int .i64 (k:Int)∧m=p.threads.length - k∧k≤p.threads.length∧St w bD [bK y (gF p++p.locks++(p.threads.take k).map (λ t=>(⟨t.name,0,t.at_⟩:dF))),cD kD (Flat.enc (⟨bH,bQ,bI,aT,aU,aY⟩:bN))] w1,⟨_,0,rfl,rfl,by omega,by simpa using hs⟩,?_⟩;rintro m l3 _ w6 ⟨k,rfl,rfl,hk,hs⟩ fy;have KQ:=hz.threads;refine aA nc (aB ja hs.p1.hb rfl ?_)
 obtain ⟨awp,air,aoW⟩:=(bR).open;have hn24:=aoW.1;refine aJ iJ (air.ext hs.aF) (aR (aC (λ fu=>?_) (λ fu=>?_)))
 ·refine aA nc (have hs:=hs.drew;aB ja hs.p1.hb rfl ?_);obtain ⟨aoX,Bc⟩:=gx awp (i:=((k:Int)).toNat) (by omega);obtain ⟨zR,Bd⟩:=gx ((p).threads) (i:=((k:Int)).toNat) (by omega);obtain ⟨ais,ait,rfl,aiu,aiv⟩:=aoW.2 _ _ _ Bc Bd;refine aQ iJ (air.ext hs.aF) (by omega) Bc (λ _ q7=>bP (zR).name zo q7 rfl rfl (λ _ v9=>aD j5 (v9) (aA nc (aB ja hs.p1.hb rfl (aQ iJ (air.ext hs.aF) (by omega) Bc (λ _ zS=>bP (zR).at_ zp zS rfl rfl (λ _ zT=>aD bL (zT) (pop (Du _ _) (bW ([(⟨(zR).name,0,(zR).at_⟩:dF)]) hs j0 rfl rfl (eF rfl) (λ ae7 w7 hs=>?_))))))))))
  have aiw:=(hs).fK;refine cN hs.p1 j0 aiw (by have:=m4 hz.toPS; have:=hz.locks; have:=hz.threads; simp; omega) (by decide) (λ aoY w8 hs=>have hs:=hs.p1.drop;aO (by omega) ?_);have hs:=hs.p1.p1;exact ⟨_,by omega,k+1,rfl,rfl,by omega,by rw [← iP (k:=k) Bd,← List.append_assoc]; exact hs⟩
 ·rw [List.take_of_length_le (by omega)] at hs;have hdl:=R4 hz.toPS;have hs:St w bD [bK l3 (jz p),cD kD (Flat.enc (⟨bH,bQ,bI,aT,aU,aY⟩:bN))] _:=hs;refine dB TX hs (C107 _ _ _ (hs).fK (by omega)) (λ x39 w9 bZ hs=>?_);have hs:=hs.p2.p2.p2;refine ⟨λ m x w1=>∃ k:Nat,x = .int .i64 (k:Int)∧m=(jz p).length - k∧k≤(jz p).length∧(∀ j,j<k→CD (jz p) j=false)∧St w bD [bK x39 ((jz p).map dF.name),bK l3 (jz p),cD kD (Flat.enc (⟨bH,bQ,bI,aT,aU,aY⟩:bN))] w1,⟨_,0,rfl,rfl,by omega,by simp,hs⟩,?_⟩
  rintro m _ pQ ⟨k,rfl,rfl,hk,fS,hs⟩ jw;refine aJ j0 (hs.p1).fK (aR (aC (λ tW=>?_) (λ tW=>?_)))
  ·obtain ⟨Ee,uV⟩:=gx ((jz p)) (i:=((k:Int)).toNat) (by omega);refine dS hs.p1 j0 (by omega) (by omega) (λ _ Ef=>mZ pz Ef (λ _ Ve=>nX (Ee).name hs.p1 j5 Ve uV rfl (aZ AS hs (C98 _ (((jz p)).map dF.name) _ _ (hs).fK (by rw [List.length_map]; omega)) (λ sP he hs=>aR (aC (λ wi=>?_) (λ wi=>?_))))))
   ·refine dS hs.p1 j0 (by omega) (by omega) (λ _ ub=>mZ Dp ub (λ _ wj=>nX (Ee).at_ hs.p1 bL wj uV rfl ?_));have hs:=((((hs.drop)).drop)).drop;exact ⟨_,rfl,by unfold rf; rw [rh (j:=k) (by omega) (by rw [GI (k:=k) uV]; exact decide_eq_true wi)]; exact decide_eq_true (sR _ (List.mem_of_getElem? uV)),hs.aF⟩
   ·refine aO (by omega) ?_;exact ⟨_,by omega,k+1,rfl,rfl,by omega,zO fS (by rw [GI (k:=k) uV]; exact decide_eq_false wi),hs⟩
  ·have hs:=((((hs.drop)).drop)).drop;exact ⟨_,rfl,by unfold rf; rw [m6 (λ j hj=>fS j (by omega))]; rfl,hs.aF⟩
theorem C100 (p:cX) (pv:bN) (t:dQ) (tv:eg) (x:cE) (xv:bX) (w:World) (hp:cA.dr w pv p) (ht:cA.dr w tv t) (hx:cA.dr w xv x) (hz:PZ p) (KQ:t.aK.length≤500) (hzx:SzS x) (sR:0≤x.at_∧(∀ y∈x.e,0≤y.at_)∧(∀ y∈x.f,0≤y.at_)):CR 100 [Flat.val pv,Flat.val tv,Flat.val xv] w (λ v w'=>∃ a:Int,v = .int .i64 a∧decide (0≤a)=om p t.aK x∧Ext w w'):=by
 obtain ⟨bH,bQ,bI,aT,aU,aY,rfl,cI,cY,cJ,bR,bO,cB⟩:=hp;obtain ⟨uc,zU,rfl,zV,Eg⟩:=ht;obtain ⟨zI,zJ,rfl,KM,GD⟩:=hx;have Ql:=l6 hz.toPS;have KF:(gY p).length≤500:=by unfold gY; rw [List.length_map]; exact hz.locks
 have hs:=St.start w;refine YN _ _ _ _ _ ?_;unfold S100;refine dE hs (λ wk w1 hs=>dE hs (λ aiy w2 hs=>dE hs (λ ua w3 hs=>?_)));refine ⟨λ jv w'=>jv = .bool (decide (¬ x.gJ=⟨#[]⟩) && decide (dO t.aK x.gJ<0))∧St w bD [cD ua (Flat.enc (⟨(x).kind,(x).gJ,(x).name,zI,zJ,(x).n,(x).body,(x).fD,(x).at_⟩:bX)),cD aiy (Flat.enc (⟨(t).name,uc,zU,(t).at_⟩:eg)),cD wk (Flat.enc (⟨bH,bQ,bI,aT,aU,aY⟩:bN))] w',?_,?_⟩
 ·refine aA lS (aB (v:=.string ((x).gJ)) j5 hs.hb rfl (oL (aC (λ gO=>?_) (λ gO=>?_))))
  ·refine aA jn (aB pw hs.p1.hb rfl ?_);have awq:=DL.flat (zV);refine aA lS (aB (v:=.string ((x).gJ)) j5 hs.hb rfl (aZ AS hs (C98 _ (t).aK _ _ (awq.ext hs.aF) (by omega)) (λ w4 he hs=>aR ?_)));exact ⟨vb (by grind),hs⟩
  ·exact ⟨vb (by grind),hs⟩
 ·rintro _ w5 ⟨rfl,hs⟩ fy;refine aX (λ fu=>?_) (λ fu=>?_)
  ·refine aA qQ (aB (v:=.int .i64 ((x).at_)) bL hs.hb rfl ?_);have hs:=((((hs.drop)).drop)).drop;exact ⟨_,rfl,by rw [decide_eq_true sR.1]; unfold om; grind,hs.aF⟩
  ·have hs:=hs.drew;refine aD gI hs.p2.At (aA jh (aB (v:=.string ((x).name)) j5 hs.hb rfl (dB TP hs (C46 p _ _ ⟨bH,bQ,bI,aT,aU,aY,rfl,(cI).ext hs.aF,(cY).ext hs.aF,(cJ).ext hs.aF,(bR).ext hs.aF,(bO).ext hs.aF,(cB).ext hs.aF⟩ hz) (λ x23 w6 bZ hs=>?_))));refine ⟨aG j5 (hs.p1.hb.cell rfl),?_⟩;refine aZ AS hs (C98 _ (fb p) _ _ (hs).fK (by omega)) (λ w7 he hs=>?_);refine ⟨λ w'=>(((decide (x.kind=2) || decide (x.kind=3) || decide (x.kind=4)) && decide (dO (fb p) x.name<0)) || ((decide (x.kind=5) || decide (x.kind=6)) && (decide (dO (fb p) x.name<0) || decide (et p≤dO (fb p) x.name))) || ((decide (x.kind=9) || decide (x.kind=10)) && decide (dO (gY p) x.name<0)))=false∧St w bD [cD ua (Flat.enc (⟨(x).kind,(x).gJ,(x).name,zI,zJ,(x).n,(x).body,(x).fD,(x).at_⟩:bX)),cD aiy (Flat.enc (⟨(t).name,uc,zU,(t).at_⟩:eg)),cD wk (Flat.enc (⟨bH,bQ,bI,aT,aU,aY⟩:bN))] w',?_,?_⟩
   ·refine aA fw (aB (v:=.int .i64 ((x).kind)) bL hs.p1.hb rfl ?_);refine ⟨λ jv w'=>jv = .bool (decide (x.kind=2∨x.kind=3∨x.kind=4))∧w7=w',?_,?_⟩
    ·refine aH (aC (λ nA=>?_) (λ nA=>?_))
     ·exact ⟨xu (by omega),rfl⟩
     ·refine aH (aC (λ lK=>?_) (λ lK=>?_))
      ·exact ⟨xu (by omega),rfl⟩
      ·refine aH ?_;exact ⟨xu (by omega),rfl⟩
    ·rintro _ w8 ⟨rfl,hw⟩ jw;subst hw;refine aC (λ Vf=>?_) (λ Vf=>?_)
     ·refine aR (aC (λ iC=>?_) (λ iC=>?_))
      ·refine aA qQ (aB (v:=.int .i64 ((x).at_)) bL hs.p1.hb rfl ?_);have hs:=((((((hs.drop)).drop)).drop)).drop;exact ⟨_,rfl,by rw [decide_eq_true sR.1]; unfold om; grind,hs.aF⟩
      ·have hs:=(hs.drop.p2.p2).p2;exact ⟨by grind,hs⟩
     ·refine ⟨λ jv w'=>jv = .bool (decide (x.kind=5∨x.kind=6))∧w7=w',?_,?_⟩
      ·refine aH (aC (λ m7=>?_) (λ m7=>?_))
       ·exact ⟨xu (by omega),rfl⟩
       ·refine aH ?_;exact ⟨xu (by omega),rfl⟩
      ·rintro _ w9 ⟨rfl,hw⟩ oN;subst hw;refine aC (λ tU=>?_) (λ tU=>?_)
       ·refine ⟨λ jv w'=>jv = .bool (decide (dO (fb p) x.name<0) || decide (et p≤dO (fb p) x.name))∧St w bD [bK x23 (fb p),cD ua (Flat.enc (⟨(x).kind,(x).gJ,(x).name,zI,zJ,(x).n,(x).body,(x).fD,(x).at_⟩:bX)),cD aiy (Flat.enc (⟨(t).name,uc,zU,(t).at_⟩:eg)),cD wk (Flat.enc (⟨bH,bQ,bI,aT,aU,aY⟩:bN))] w',?_,?_⟩
        ·refine aR (aC (λ jX=>?_) (λ jX=>?_))
         ·exact ⟨vb (by grind),hs⟩
         ·refine aD gI hs.p3.At (aZ YK hs (C41 p _ _ ⟨bH,bQ,bI,aT,aU,aY,rfl,(cI).ext hs.aF,(cY).ext hs.aF,(cJ).ext hs.aF,(bR).ext hs.aF,(bO).ext hs.aF,(cB).ext hs.aF⟩ hz) (λ pQ he hs=>dG ?_));exact ⟨vb (by grind),hs⟩
        ·rintro _ sP ⟨rfl,hs⟩ GF;refine aX (λ ri=>?_) (λ ri=>?_)
         ·refine aA qQ (aB (v:=.int .i64 ((x).at_)) bL hs.p1.hb rfl ?_);have hs:=((((((hs.drop)).drop)).drop)).drop;exact ⟨_,rfl,by rw [decide_eq_true sR.1]; unfold om; grind,hs.aF⟩
         ·have hs:=(hs.drop.p2.p2).p2;exact ⟨by grind,hs⟩
       ·refine ⟨λ jv w'=>jv = .bool (decide (x.kind=9∨x.kind=10))∧w7=w',?_,?_⟩
        ·refine aH (aC (λ pF=>?_) (λ pF=>?_))
         ·exact ⟨xu (by omega),rfl⟩
         ·refine aH ?_;exact ⟨xu (by omega),rfl⟩
        ·rintro _ vi ⟨rfl,hw⟩ R0;subst hw;refine aC (λ oe=>?_) (λ oe=>?_)
         ·have hs:=hs.drew;refine aD gI hs.p3.At (aA jh (aB (v:=.string ((x).name)) j5 hs.p1.hb rfl (dB ahG hs (C99 p _ _ ⟨bH,bQ,bI,aT,aU,aY,rfl,(cI).ext hs.aF,(cY).ext hs.aF,(cJ).ext hs.aF,(bR).ext hs.aF,(bO).ext hs.aF,(cB).ext hs.aF⟩ hz) (λ x54 vj bZ hs=>?_))));refine ⟨aG j5 (hs.p2.hb.cell rfl),?_⟩;refine aZ AS hs (C98 _ (gY p) _ _ (hs).fK (by omega)) (λ sd he hs=>aR (aC (λ tZ=>?_) (λ tZ=>?_)))
          ·refine aA qQ (aB (v:=.int .i64 ((x).at_)) bL hs.p2.hb rfl ?_);have hs:=((((((((hs.drop)).drop)).drop)).drop)).drop;exact ⟨_,rfl,by rw [decide_eq_true sR.1]; unfold om; grind,hs.aF⟩
          ·have hs:=(((((hs.drop)).drop).p2).p2).p2;exact ⟨by grind,hs⟩
         ·have hs:=(hs.drop.p2.p2).p2;exact ⟨by grind,hs⟩
   ·rintro vW ⟨hmid,hs⟩ dd6;refine aA lT (aB mR hs.hb rfl ?_);have awr:=DL.flat (KM);refine aA jn (aB pw hs.p1.hb rfl ?_);have aoZ:=DL.flat (zV);refine ey TV (C101 _ _ _ _ _ (awr.ext hs.aF) (aoZ.ext hs.aF) hzx.2.2.1 (by omega) sR.2.1) ?_;rintro _ yM ⟨a_x65,rfl,aws,he⟩;have hs:=hs.ext he;refine dG (aC (λ oh=>?_) (λ oh=>?_))
    ·have hs:=((((hs.drop)).drop)).drop;exact ⟨_,rfl,by unfold om; grind,hs.aF⟩
    ·refine aA nU (aB mR hs.hb rfl ?_);have awt:=DL.flat (GD);refine aA jn (aB pw hs.p1.hb rfl (ey TV (C101 _ _ _ _ _ (awt.ext hs.aF) (aoZ.ext hs.aF) hzx.2.2.2.1 (by omega) sR.2.2) ?_));rintro _ Cd ⟨a_x73,rfl,awu,he⟩;have hs:=((((((hs.ext he)).drop)).drop)).drop;exact ⟨_,rfl,by unfold om; grind,hs.aF⟩
theorem C94 (p:cX) (pv:bN) (w:World) (hp:cA.dr w pv p) (hz:PZ p):CR 94 [Flat.val pv] w (λ v w'=>v = .bool (zP p)∧Ext w w'):=by
 obtain ⟨bH,bQ,bI,aT,aU,aY,rfl,cI,cY,cJ,bR,bO,cB⟩:=hp;have hs:=St.start w;refine ahy _ _ _ ?_;unfold S94;refine dE hs (λ kD w1 hs=>?_);refine ⟨λ m x w1=>∃ k:Nat,x = .int .i64 (k:Int)∧m=p.lines.length - k∧k≤p.lines.length∧(∀ y∈p.lines.take k,decide (4<(y.length:Int))=false)∧St w bD [cD kD (Flat.enc (⟨bH,bQ,bI,aT,aU,aY⟩:bN))] w1,⟨_,0,rfl,rfl,Nat.zero_le _,by simp,hs⟩,?_⟩;rintro m _ w2 ⟨k,rfl,rfl,hk,fS,hs⟩ fy;have hzl:=hz.lines;refine aA jm (aB rO hs.hb rfl ?_)
 obtain ⟨awv,aiz,ao0⟩:=(cI).open;have hn29:=ao0.1;refine aJ vv (aiz.ext hs.aF) (aR (aC (λ fO=>?_) (λ fO=>?_)))
 ·refine aA jm (aB rO hs.hb rfl ?_);obtain ⟨GH,kM⟩:=gx awv (i:=((k:Int)).toNat) (by omega);obtain ⟨mz,kN⟩:=gx ((p).lines) (i:=((k:Int)).toNat) (by omega);have Vg:DL w (Flat.val GH) mz:=ao0.2 _ _ _ kM kN;refine aQ vv (aiz.ext hs.aF) (by omega) kM (λ _ tT=>aD jt (tT) ?_);have aww:=DL.flat (Vg);refine aJ j0 (aww.ext hs.aF) (cZ (aC (λ fu=>?_) (λ fu=>?_)))
  ·have hs:=(hs).drop;refine ⟨vb ?_,hs.aF⟩;unfold zP;rw [jx kN (decide_eq_true (by omega))]; rfl
  ·refine aO (by omega) ?_;exact ⟨_,by omega,k+1,rfl,rfl,by omega,eC fS kN (decide_eq_false fu),hs⟩
 ·refine aD gI hs.At ?_;obtain ⟨ao1,aiA,ao2⟩:=(bR).open;have hn31:=ao2.1;obtain ⟨ao3,awx,ao4⟩:=(bO).open;have hn32:=ao4.1;refine ey amx (C95 p _ ao1 ao3 _ ⟨bH,bQ,bI,aT,aU,aY,rfl,(cI).ext hs.aF,(cY).ext hs.aF,(cJ).ext hs.aF,(bR).ext hs.aF,(bO).ext hs.aF,(cB).ext hs.aF⟩ (aiA.ext hs.aF) (awx.ext hs.aF) (by have:=hz.threads; omega) (by have:=hz.recover; omega)) ?_;rintro Vh w3 bZ;have hs:=hs.made bZ;obtain ⟨xF,KW⟩:∃ t,t=ao1++ao3:=⟨_,rfl⟩;rw [← KW] at hs;have FJ:jO xF (iG p) w:=by rw [KW]; exact jO.append ao2 ao4
  have ao5:=FJ.1;have awy:=Qf hz.toPS;have hs:=hs.p1.p1;refine ⟨λ m x w1=>∃ kb:Nat,x = .int .i64 (kb:Int)∧m=(iG p).length - kb∧kb≤(iG p).length∧(∀ y∈(iG p).take kb,decide (4<(y.aK.length:Int))=false)∧St w bD [bK Vh xF,cD kD (Flat.enc (⟨bH,bQ,bI,aT,aU,aY⟩:bN))] w1,⟨_,0,rfl,rfl,Nat.zero_le _,by simp,hs⟩,?_⟩;rintro m _ w4 ⟨kb,rfl,rfl,hkb,Nt,hs⟩ jw;refine aJ iJ (hs).fK (aR (aC (λ fR=>?_) (λ fR=>?_)))
  ·obtain ⟨DO,lC⟩:=gx xF (i:=((kb:Int)).toNat) (by omega);obtain ⟨ao6,wm⟩:=gx ((iG p)) (i:=((kb:Int)).toNat) (by omega);obtain ⟨Eh,Ei,rfl,Ej,Ek⟩:=FJ.2 _ _ _ lC wm;refine aQ iJ (hs).fK (by omega) lC (λ _ od=>bP Eh jn od rfl rfl (λ _ oD=>aD pw (oD) ?_));have awz:=DL.flat (Ej);refine aJ mS (awz.ext hs.aF) (cZ (aC (λ iC=>?_) (λ iC=>?_)))
   ·have hs:=((hs.drop)).drop;refine ⟨vb ?_,hs.aF⟩;unfold zP;rw [jx wm (decide_eq_true (by omega))]; simp
   ·refine aO (by omega) ?_;exact ⟨_,by omega,kb+1,rfl,rfl,by omega,eC Nt wm (decide_eq_false (by omega)),hs⟩
  ·refine ⟨λ jv w'=>jv = .bool (decide (4<(p.lines.length:Int)) || decide (4<(p.jP.length:Int)) || decide (2<(p.locks.length:Int)) || decide ((p.threads.length:Int)<1) || decide (3<(p.threads.length:Int)) || decide (4<(p.cC.length:Int)))∧St w bD [] w',?_,?_⟩
   ·refine aA jm (aB rO hs.p1.hb rfl (aJ vv (aiz.ext hs.aF) (cZ (aC (λ m7=>?_) (λ m7=>?_)))))
    ·have hs:=((hs.drop)).drop;exact ⟨vb (by grind),hs⟩
    ·refine aA uG (aB jt hs.p1.hb rfl ?_);have awA:=DL.flat (cY);refine aJ j0 (awA.ext hs.aF) (cZ (aC (λ tW=>?_) (λ tW=>?_)))
     ·have hs:=((hs.drop)).drop;exact ⟨vb (by grind),hs⟩
     ·refine aA rT (aB jt hs.p1.hb rfl ?_);have awB:=DL.flat (cJ);refine aJ j0 (awB.ext hs.aF) (cZ (aC (λ vn=>?_) (λ vn=>?_)))
      ·have hs:=((hs.drop)).drop;exact ⟨vb (by grind),hs⟩
      ·refine aA nc (aB ja hs.p1.hb rfl (aJ iJ (aiA.ext hs.aF) (aR (aC (λ Ec=>?_) (λ Ec=>?_)))))
       ·have hs:=((hs.drop)).drop;exact ⟨vb (by grind),hs⟩
       ·refine aA nc (aB ja hs.p1.hb rfl (aJ iJ (aiA.ext hs.aF) (cZ (aC (λ kq=>?_) (λ kq=>?_)))))
        ·have hs:=((hs.drop)).drop;exact ⟨vb (by grind),hs⟩
        ·refine aA kJ (aB sM hs.p1.hb rfl ?_);obtain ⟨ts36,awC,awD⟩:=(cB).open;have hn36:=awD.1;refine aJ yk (awC.ext hs.aF) (cZ ?_);have hs:=((hs.drop)).drop;exact ⟨vb (by grind),hs⟩
   ·rintro _ w5 ⟨rfl,hs⟩ oN;refine ⟨vb ?_,hs.aF⟩;unfold zP;rw [iF (by rw [List.take_of_length_le (by omega)] at fS; exact fS),iF (by rw [List.take_of_length_le (by omega)] at Nt; exact Nt)]; rfl
theorem C40 (p:cX) (pv:bN) (w:World) (hp:cA.dr w pv p) (hz:PZ p):CR 40 [Flat.val pv] w (λ v w'=>∃ a:Int,v = .tuple #[.int .i64 (gK p),.int .i64 a]∧Ext w w'):=by
 obtain ⟨bH,bQ,bI,aT,aU,aY,rfl,cI,cY,cJ,bR,bO,cB⟩:=hp;have hs:=St.start w;refine agR _ _ _ ?_;unfold S40;refine dE hs (λ kD w1 hs=>aD gI hs.At (aZ auF hs (C93 p _ _ ⟨bH,bQ,bI,aT,aU,aY,rfl,(cI).ext hs.aF,(cY).ext hs.aF,(cJ).ext hs.aF,(bR).ext hs.aF,(bO).ext hs.aF,(cB).ext hs.aF⟩ hz) (λ w2 he hs=>bY (aX (λ lZ=>?_) (λ lZ=>?_)))))
 ·have hs:=(hs).drop;exact ⟨_,congrArg (λ q=>Value.tuple #[.int .i64 q,_]) (ce8 (by simpa using lZ)).symm,hs.aF⟩
 ·have hrp:l4 p=true:=by simpa using lZ
  have hPF:=wh hrp;refine aD gI hs.At (aZ auG hs (C94 p _ _ ⟨bH,bQ,bI,aT,aU,aY,rfl,(cI).ext hs.aF,(cY).ext hs.aF,(cJ).ext hs.aF,(bR).ext hs.aF,(bO).ext hs.aF,(cB).ext hs.aF⟩ hz) (λ w3 he hs=>aX (λ fu=>?_) (λ fu=>?_)))
  ·have hs:=(hs).drop;exact ⟨_,congrArg (λ q=>Value.tuple #[.int .i64 q,_]) (ce2 hrp fu).symm,hs.aF⟩
  ·refine aD gI hs.At ?_;obtain ⟨ao7,awE,ao8⟩:=(bR).open;have hn37:=ao8.1;obtain ⟨ao9,awF,apa⟩:=(bO).open;have hn38:=apa.1;refine ey amx (C95 p _ ao7 ao9 _ ⟨bH,bQ,bI,aT,aU,aY,rfl,(cI).ext hs.aF,(cY).ext hs.aF,(cJ).ext hs.aF,(bR).ext hs.aF,(bO).ext hs.aF,(cB).ext hs.aF⟩ (awE.ext hs.aF) (awF.ext hs.aF) (by have:=hz.threads; omega) (by have:=hz.recover; omega)) ?_;rintro Vh w4 bZ;have hs:=hs.made bZ;obtain ⟨xF,KW⟩:∃ t,t=ao7++ao9:=⟨_,rfl⟩;rw [← KW] at hs;have FJ:jO xF (iG p) w:=by rw [KW]; exact jO.append ao8 apa
   have ao5:=FJ.1;have awy:=Qf hz.toPS;have hs:=hs.p1.p1;refine ⟨λ m x w1=>∃ k1:Nat,x = .int .i64 (k1:Int)∧m=(iG p).length - k1∧k1≤(iG p).length∧(∀ y∈(iG p).take k1,vm y.body=false)∧St w bD [bK Vh xF,cD kD (Flat.enc (⟨bH,bQ,bI,aT,aU,aY⟩:bN))] w1,⟨_,0,rfl,rfl,Nat.zero_le _,by simp,hs⟩,?_⟩;rintro m _ w5 ⟨k1,rfl,rfl,Tg,aiB,hs⟩ fy;refine aJ iJ (hs).fK (aR (aC (λ fR=>?_) (λ fR=>?_)))
   ·obtain ⟨DO,lC⟩:=gx xF (i:=((k1:Int)).toNat) (by omega);obtain ⟨ao6,wm⟩:=gx ((iG p)) (i:=((k1:Int)).toNat) (by omega);obtain ⟨Eh,Ei,rfl,Ej,Ek⟩:=FJ.2 _ _ _ lC wm;refine aQ iJ (hs).fK (by omega) lC (λ _ od=>bP Ei qt od rfl rfl (λ _ oD=>aD sN (oD) ?_));obtain ⟨hb40,MW,tr,htr,Iu,oB,_⟩:=nB (hPF.nf (List.mem_of_getElem? wm)).2.1;have Ca:=congrArg List.length htr;rw [Bk.cO] at Ca;refine ey ahF (C96 _ tr 1 (tr.len+1) _ (by rw [← htr]; exact (Ek.ext hs.aF)) Iu (λ y hy=>Ns (MW y (by rw [htr]; exact hy))) (by omega) (by omega) (by omega)) ?_
    rintro _ w6 ⟨wa,rfl,hwa,he⟩;have hs:=hs.ext he;refine dG (aC (λ jq=>?_) (λ jq=>?_))
    ·have hs:=((hs.drop)).drop;exact ⟨_,congrArg (λ q=>Value.tuple #[.int .i64 q,_]) (av2 hrp fu (jx wm (by rw [htr,yq Iu,← hwa]; exact decide_eq_true jq))).symm,hs.aF⟩
    ·refine aO (by omega) ?_;have hs:=hs.p1.p1;exact ⟨_,by omega,k1+1,rfl,rfl,by omega,eC aiB wm (by rw [htr,yq Iu,← hwa]; exact decide_eq_false jq),hs⟩
   ·rw [List.take_of_length_le (by omega)] at aiB;have vy:(iG p).any (λ t=>vm t.body)=false:=iF aiB;refine aD gI hs.p1.At (ey auH (C97 p _ _ ⟨bH,bQ,bI,aT,aU,aY,rfl,(cI).ext hs.aF,(cY).ext hs.aF,(cJ).ext hs.aF,(bR).ext hs.aF,(bO).ext hs.aF,(cB).ext hs.aF⟩ hz hPF.decl) ?_);rintro _ w7 ⟨a_x38,rfl,Vi,he⟩;have hs:=hs.ext he;refine dG (aC (λ oC=>?_) (λ oC=>?_))
    ·have hs:=((hs.drop)).drop;exact ⟨_,congrArg (λ q=>Value.tuple #[.int .i64 q,_]) (av3 hrp fu vy (by rw [← Vi]; exact decide_eq_true oC)).symm,hs.aF⟩
    ·have h10:rf (jz p)=false:=by rw [← Vi]; exact decide_eq_false oC
     have hs:=hs.p1.p1;refine ⟨λ m x w1=>∃ k2:Nat,x = .int .i64 (k2:Int)∧m=(iG p).length - k2∧k2≤(iG p).length∧(∀ y∈(iG p).take k2,FI p y.aK=false)∧St w bD [bK Vh xF,cD kD (Flat.enc (⟨bH,bQ,bI,aT,aU,aY⟩:bN))] w1,⟨_,0,rfl,rfl,Nat.zero_le _,by simp,hs⟩,?_⟩;rintro m _ w8 ⟨k2,rfl,rfl,Jn,D5,hs⟩ jw;refine aJ iJ (hs).fK (aR (aC (λ kG=>?_) (λ kG=>?_)))
     ·obtain ⟨apb,wo⟩:∃ xx,xF[((k2:Int)).toNat]? = some xx:=⟨_,List.getElem?_eq_getElem (by omega)⟩;obtain ⟨zW,Iv⟩:∃ xx,((iG p))[((k2:Int)).toNat]? = some xx:=⟨_,List.getElem?_eq_getElem (by omega)⟩;obtain ⟨yt,aiD,rfl,Nu,aiE⟩:=FJ.2 _ _ _ wo Iv;have hzt2:=hz.nf (List.mem_of_getElem? Iv);refine ⟨λ m x w1=>∃ k3:Nat,x = .int .i64 (k3:Int)∧m=zW.aK.length - k3∧k3≤zW.aK.length∧(∀ j,j<k3→Qe p zW.aK j=false)∧St w bD [bK Vh xF,cD kD (Flat.enc (⟨bH,bQ,bI,aT,aU,aY⟩:bN))] w1,⟨_,0,rfl,rfl,Nat.zero_le _,by simp,hs⟩,?_⟩
      rintro m _ w9 ⟨k3,rfl,rfl,hk3,apd,hs⟩ oN;refine aQ iJ (hs).fK (by omega) wo (λ _ Vj=>bP yt jn Vj rfl rfl (λ _ ape=>aD pw (ape) ?_));have aiF:=DL.flat (Nu);refine aJ mS (aiF.ext hs.aF) (aR (aC (λ Ec=>?_) (λ Ec=>?_)))
      ·refine aQ iJ (hs).fK (by omega) wo (λ _ apf=>bP yt jn apf rfl rfl (λ _ Vk=>aD pw (Vk) ?_));obtain ⟨GJ,wq⟩:=gx ((zW).aK) (i:=((k3:Int)).toNat) (by omega);refine aQ mS (aiF.ext hs.aF) (by omega) wq (λ _ D7=>aD j5 (D7) ?_);refine ⟨λ jv w'=>jv = .bool (decide (dO zW.aK GJ<k3) || decide (0≤dO (fb p) GJ) || decide (0≤dO (gY p) GJ))∧St w bD [bK Vh xF,cD kD (Flat.enc (⟨bH,bQ,bI,aT,aU,aY⟩:bN))] w',?_,?_⟩
       ·refine aQ iJ (hs).fK (by omega) wo (λ _ apg=>bP yt jn apg rfl rfl (λ _ Vl=>aD pw (Vl) (aZ AS hs (C98 _ (zW).aK _ _ (aiF.ext hs.aF) (by have:=l6 hz.toPS; have hk:(gY p).length≤500:=(by unfold gY; rw [List.length_map]; exact hz.locks); omega)) (λ pQ he hs=>aR (aC (λ U7=>?_) (λ U7=>?_))))))
        ·have hs:=hs.p1.p1;exact ⟨vb (by grind),hs⟩
        ·refine aD gI hs.p1.At (dB TP hs (C46 p _ _ ⟨bH,bQ,bI,aT,aU,aY,rfl,(cI).ext hs.aF,(cY).ext hs.aF,(cJ).ext hs.aF,(bR).ext hs.aF,(bO).ext hs.aF,(cB).ext hs.aF⟩ hz) (λ x77 sP bZ hs=>aZ AS hs (C98 _ (fb p) _ _ (hs).fK (by have:=l6 hz.toPS; have hk:(gY p).length≤500:=(by unfold gY; rw [List.length_map]; exact hz.locks); omega)) (λ vi he hs=>dG (aC (λ GK=>?_) (λ GK=>?_)))))
         ·have hs:=(hs.drop.p1).p1;exact ⟨vb (by grind),hs⟩
         ·refine aD gI hs.p2.At (dB ahG hs (C99 p _ _ ⟨bH,bQ,bI,aT,aU,aY,rfl,(cI).ext hs.aF,(cY).ext hs.aF,(cJ).ext hs.aF,(bR).ext hs.aF,(bO).ext hs.aF,(cB).ext hs.aF⟩ hz) (λ x84 vj bZ hs=>aZ AS hs (C98 _ (gY p) _ _ (hs).fK (by have:=l6 hz.toPS; have hk:(gY p).length≤500:=(by unfold gY; rw [List.length_map]; exact hz.locks); omega)) (λ sd he hs=>dG ?_)));have hs:=((((hs.drop)).drop).p1).p1;exact ⟨vb (by grind),hs⟩
       ·rintro _ vW ⟨rfl,hs⟩ GF;refine aX (λ El=>?_) (λ El=>?_)
        ·refine aQ iJ (hs).fK (by omega) wo (λ _ aph=>bP (zW).at_ zp aph rfl rfl (λ _ Vm=>have hs:=hs.drew;aD bL (Vm) ?_));have hs:=((hs.drop)).drop;exact ⟨_,congrArg (λ q=>Value.tuple #[.int .i64 q,_]) (aoG hrp fu vy h10 (jx Iv (show FI p zW.aK=true from rh (j:=k3) (by omega) (by rw [Qg (k:=k3) wq]; exact El)))).symm,hs.aF⟩
        ·refine aO (by omega) ?_;exact ⟨_,by omega,k3+1,rfl,rfl,by omega,zO apd (by rw [Qg (k:=k3) wq]; exact El),hs⟩
      ·refine aO (by omega) ?_;have hs:=hs.p1.p1;exact ⟨_,by omega,k2+1,rfl,rfl,by omega,eC D5 Iv (show FI p zW.aK=false from m6 (λ j hj=>apd j (by omega))),hs⟩
     ·rw [List.take_of_length_le (by omega)] at D5;have aiG:(iG p).any (λ t=>FI p t.aK)=false:=iF D5;have hs:=hs.p1.p1;refine ⟨λ m x w1=>∃ k5:Nat,x = .int .i64 (k5:Int)∧m=(iG p).length - k5∧k5≤(iG p).length∧(∀ y∈(iG p).take k5,y.body.any (om p y.aK)=false)∧St w bD [bK Vh xF,cD kD (Flat.enc (⟨bH,bQ,bI,aT,aU,aY⟩:bN))] w1,⟨_,0,rfl,rfl,Nat.zero_le _,by simp,hs⟩,?_⟩;rintro m _ yM ⟨k5,rfl,rfl,hk5,aiH,hs⟩ R0;refine aJ iJ (hs).fK (aR (aC (λ api=>?_) (λ api=>?_)))
      ·obtain ⟨awG,CF⟩:∃ xx,xF[((k5:Int)).toNat]? = some xx:=⟨_,List.getElem?_eq_getElem (by omega)⟩;obtain ⟨Be,zX⟩:∃ xx,((iG p))[((k5:Int)).toNat]? = some xx:=⟨_,List.getElem?_eq_getElem (by omega)⟩;obtain ⟨KX,wt,rfl,KY,BQ⟩:=FJ.2 _ _ _ CF zX;have apj:=hz.nf (List.mem_of_getElem? zX);have awH:=hPF.nf (List.mem_of_getElem? zX);obtain ⟨hb45,apk,_⟩:=nB awH.2.1;refine ⟨λ m x w1=>∃ k6:Nat,x = .int .i64 (k6:Int)∧m=Be.body.length - k6∧k6≤Be.body.length∧(∀ y∈Be.body.take k6,om p Be.aK y=false)∧St w bD [bK Vh xF,cD kD (Flat.enc (⟨bH,bQ,bI,aT,aU,aY⟩:bN))] w1,⟨_,0,rfl,rfl,Nat.zero_le _,by simp,hs⟩,?_⟩
       rintro m _ Cd ⟨k6,rfl,rfl,hk6,aiI,hs⟩ dd6;refine aQ iJ (hs).fK (by omega) CF (λ _ aiJ=>bP wt qt aiJ rfl rfl (λ _ aiK=>aD sN (aiK) ?_));obtain ⟨awI,apl,apm⟩:=(BQ).open;have hn40:=apm.1;refine aJ j1 (apl.ext hs.aF) (aR (aC (λ aiL=>?_) (λ aiL=>?_)))
       ·have hs:=hs.drew;refine aD gI hs.p1.At (aQ iJ (hs).fK (by omega) CF (λ _ Nv=>aD H6 (Nv) (aQ iJ (hs).fK (by omega) CF (λ _ aiM=>bP wt qt aiM rfl rfl (λ _ aiN=>aD sN (aiN) ?_)))));obtain ⟨awJ,Qm⟩:=gx awI (i:=((k6:Int)).toNat) (by omega);obtain ⟨aiO,zY⟩:=gx ((Be).body) (i:=((k6:Int)).toNat) (by omega);obtain ⟨Vn,Vo,rfl,Vp,Vq⟩:=apm.2 _ _ _ Qm zY;refine aQ j1 (apl.ext hs.aF) (by omega) Qm (λ _ aiP=>aD fW (aiP) ?_);have hf5:=acf (apk _ (List.mem_of_getElem? zY));refine ey amy (C100 p _ Be _ aiO _ _ ⟨bH,bQ,bI,aT,aU,aY,rfl,(cI).ext hs.aF,(cY).ext hs.aF,(cJ).ext hs.aF,(bR).ext hs.aF,(bO).ext hs.aF,(cB).ext hs.aF⟩ ⟨KX,wt,rfl,(KY).ext hs.aF,(BQ).ext hs.aF⟩ ⟨Vn,Vo,rfl,(Vp).ext hs.aF,(Vq).ext hs.aF⟩ hz apj.2.1 (apj.1.2.2 _ (List.mem_of_getElem? zY)) hf5) ?_
        rintro _ Il ⟨awK,rfl,Qn,he⟩;have hs:=hs.ext he;refine dG (aC (λ yu=>?_) (λ yu=>?_))
        ·have hs:=((hs.drop)).drop;exact ⟨_,congrArg (λ q=>Value.tuple #[.int .i64 q,_]) (ce9 hrp fu vy h10 aiG (jx zX (jx zY (by rw [← Qn]; exact decide_eq_true yu)))).symm,hs.aF⟩
        ·refine aO (by omega) ?_;exact ⟨_,by omega,k6+1,rfl,rfl,by omega,eC aiI zY (by rw [← Qn]; exact decide_eq_false yu),hs⟩
       ·refine aO (by omega) ?_;have hs:=hs.p1.p1;exact ⟨_,by omega,k5+1,rfl,rfl,by omega,eC aiH zX (iF (by rw [List.take_of_length_le (by omega)] at aiI; exact aiI)),hs⟩
      ·rw [List.take_of_length_le (by omega)] at aiH;have h9:(iG p).any (λ t=>t.body.any (om p t.aK))=false:=iF aiH;have hs:=hs.drew;refine aD gI hs.p1.At (aD gI hs.p1.At (dB TP hs (C46 p _ _ ⟨bH,bQ,bI,aT,aU,aY,rfl,(cI).ext hs.aF,(cY).ext hs.aF,(cJ).ext hs.aF,(bR).ext hs.aF,(bO).ext hs.aF,(cB).ext hs.aF⟩ hz) (λ awL Jo bZ hs=>?_)));refine ⟨fP gI hs.p2.At,?_⟩;refine aZ YK hs (C41 p _ _ ⟨bH,bQ,bI,aT,aU,aY,rfl,(cI).ext hs.aF,(cY).ext hs.aF,(cJ).ext hs.aF,(bR).ext hs.aF,(bO).ext hs.aF,(cB).ext hs.aF⟩ hz) (λ KA he hs=>?_)
       have Ql:=l6 hz.toPS;have hsl:0≤et p∧et p≤(fb p).length:=by unfold et fb gF; rw [List.length_map,List.length_append]; omega
       refine kL mS (hs).fK (by omega) (by omega) (λ awM aco=>?_);have hs:=(hs.p1.drop.p1).p1;refine ⟨λ m x w1=>∃ k7:Nat,x = .int .i64 (k7:Int)∧m=p.cC.length - k7∧k7≤p.cC.length∧(∀ y∈p.cC.take k7,vl y.e (oR p)=false)∧St w bD [bK awL (fb p),cD kD (Flat.enc (⟨bH,bQ,bI,aT,aU,aY⟩:bN))] w1,⟨_,0,rfl,rfl,Nat.zero_le _,by simp,hs⟩,?_⟩;rintro m _ Mx ⟨k7,rfl,rfl,hk7,aiQ,hs⟩ dd7;have hzc:=hz.cC;refine aA kJ (aB sM hs.p1.hb rfl ?_);obtain ⟨awN,apn,apo⟩:=(cB).open;have hn41:=apo.1;refine aJ yk (apn.ext hs.aF) (aR (aC (λ Nw=>?_) (λ Nw=>?_)))
       ·refine aA kJ (aB sM hs.p1.hb rfl ?_);obtain ⟨awO,Qo⟩:=gx awN (i:=((k7:Int)).toNat) (by omega);obtain ⟨awP,zZ⟩:=gx ((p).cC) (i:=((k7:Int)).toNat) (by omega);obtain ⟨Vr,rfl,Vs⟩:=apo.2 _ _ _ Qo zZ;refine aQ yk (apn.ext hs.aF) (by omega) Qo (λ _ Nx=>bP Vr Cy Nx rfl rfl (λ _ aiR=>aD mR (aiR) ?_));have awQ:=DL.flat (Vs);refine ey TV (C101 _ _ _ _ _ (awQ.ext hs.aF) (aco _ (hs).fK) (hz.zc _ (List.mem_of_getElem? zZ)).1 (by have:=l6 hz.toPS; simp; omega) (A9 (hPF.cl _ (List.mem_of_getElem? zZ)).2)) ?_;rintro _ Qp ⟨awR,rfl,Qq,he⟩
        have hs:=hs.ext he;refine dG (aC (λ Ny=>?_) (λ Ny=>?_))
        ·have hs:=((hs.drop)).drop;exact ⟨_,congrArg (λ q=>Value.tuple #[.int .i64 q,_]) (av4 hrp fu vy h10 aiG h9 (jx zZ (by unfold oR; rw [← Qq]; exact decide_eq_true Ny))).symm,hs.aF⟩
        ·refine aO (by omega) ?_;exact ⟨_,by omega,k7+1,rfl,rfl,by omega,eC aiQ zZ (by unfold oR; rw [← Qq]; exact decide_eq_false Ny),hs⟩
       ·have hs:=((hs.drop)).drop;exact ⟨_,congrArg (λ q=>Value.tuple #[.int .i64 q,_]) (ce0 hrp fu vy h10 aiG h9 (iF (by rw [List.take_of_length_le (by omega)] at aiQ; exact aiQ))).symm,hs.aF⟩
theorem Bk.Nz {x:cE} {a b r:Bk} (h:(Bk.cons x a b r).str) {hi lo:Int} (h1:hi=1+x.body) (h2:lo=1):((Bk.cons x a b r).flat.take hi.toNat).drop lo.toNat=a.flat:=by
 obtain ⟨g1,g2,_⟩:=h
 have la:=a.cO
 rw [DZ _ (a:=1) (n:=a.flat.length) (by omega) (by omega)]
 show (a.flat++(b.flat++r.flat)).take _=_
 rw [List.take_left]
theorem Bk.acp {x:cE} {a b r:Bk} (h:(Bk.cons x a b r).str) {hi lo:Int} (h1:hi=1+x.body+x.fD) (h2:lo=1+x.body):((Bk.cons x a b r).flat.take hi.toNat).drop lo.toNat=b.flat:=by
 obtain ⟨g1,g2,_⟩:=h
 have la:=a.cO
 have lb:=b.cO
 rw [DZ _ (a:=1+a.flat.length) (n:=b.flat.length) (by omega) (by omega)]
 have e:(Bk.cons x a b r).flat=(x::a.flat)++(b.flat++r.flat):=by simp [Bk.flat]
 rw [e,show 1+a.flat.length=(x::a.flat).length from by simp; omega,List.drop_left,List.take_left]
def Em (k:Int):Int:=if k=2∨k=4∨k=8∨k=9∨k=10 then 1 else if k=3∨k=5∨k=6∨k=7 then 2 else 0
theorem Vt (k:Int):0≤Em k∧Em k≤2:=by
 unfold Em
 repeat' split
 all_goals omega
def rP:Bk→Int
 | .nil=>0
 | .cons x a b r=>(if x.kind=12 then x.n * rP a else if x.kind=11 then max (rP a) (rP b) else Em x.kind)+rP r
def kr (t:Bk):Prop:=∀ x∈t.flat,x.kind=12→1≤x.n∧x.n≤8
theorem kr.a {x:cE} {a b r:Bk} (h:kr (.cons x a b r)):kr a:=λ y hy=>h y (by simp [Bk.flat,hy])
theorem kr.b {x:cE} {a b r:Bk} (h:kr (.cons x a b r)):kr b:=λ y hy=>h y (by simp [Bk.flat,hy])
theorem kr.r {x:cE} {a b r:Bk} (h:kr (.cons x a b r)):kr r:=λ y hy=>h y (by simp [Bk.flat,hy])
theorem kr.x {x:cE} {a b r:Bk} (h:kr (.cons x a b r)):x.kind=12→1≤x.n∧x.n≤8:=h x (by simp [Bk.flat])
theorem acq (t:Bk):kr t→0≤rP t:=by
 induction t with
 | nil=>intro _; simp [rP]
 | cons x a b r vx xD GB=>
  intro h
  have h1:=vx h.a
  have h2:=xD h.b
  have h3:=GB h.r
  have hc:=Vt x.kind
  unfold rP
  split
  ·rename_i hk
   have:=Int.mul_nonneg (a:=x.n) (by have:=h.x hk; omega) h1
   omega
  ·split <;> omega
def bV:Bk→Int
 | .nil=>0
 | .cons x a b r=>(if x.kind=12 then 2+bV a else if x.kind=11 then (if 0<x.fD then 1+bV a+bV b+1 else 1+bV a+bV b) else 1)+bV r
theorem iR (t:Bk):0≤bV t∧bV t≤2 * t.len:=by
 induction t with
 | nil=>simp [bV,Bk.len]
 | cons x a b r vx xD GB=>
  unfold bV Bk.len
  repeat' split
  all_goals omega
def iS:Bk→Int
 | .nil=>0
 | .cons x a b r=>max (if x.kind=12 then max (iS a) (iS b)+1 else max (iS a) (iS b)) (iS r)
theorem sS (t:Bk):0≤iS t∧iS t≤t.len:=by
 induction t with
 | nil=>simp [iS,Bk.len]
 | cons x a b r vx xD GB=>
  unfold iS Bk.len
  split <;> omega
def lD (p:cX) (rs:List ByteArray) (x:cE):aW:=
 ⟨if x.kind=14 then 15 else x.kind,max 0 (dO rs x.gJ),
  if x.kind=2∨x.kind=3∨x.kind=4 then dO (fb p) x.name else if x.kind=5∨x.kind=6 then l5 p (dO (fb p) x.name) else if x.kind=9∨x.kind=10 then dO (gY p) x.name else 0,
  gg rs x.e,gg rs x.f,0⟩
def rj (x:cE) (a:Bk) (at_:Int):Int:=if 0<x.fD then at_+1+bV a+1 else at_+1+bV a
def eQ (p:cX) (rs:List ByteArray):Bk→Int→Int→Int→List aW
 | .nil,_,_,_=>[]
 | .cons x a b r,at_,lp,out=>
  (if x.kind=11 then [⟨12,0,0,gg rs x.e,[],rj x a at_⟩]++eQ p rs a (at_+1) lp out++(if 0<x.fD then [⟨11,0,0,[],[],rj x a at_+bV b⟩] else [])++eQ p rs b (rj x a at_) lp out
   else if x.kind=12 then [⟨13,lp,x.n,[],[],0⟩]++eQ p rs a (at_+1) (lp+1) (at_+2+bV a)++[⟨14,lp,0,[],[],at_+1⟩]
   else if x.kind=13 then [⟨11,0,0,[],[],out⟩] else [lD p rs x])++
  eQ p rs r (at_+(bV (.cons x a b r) - bV r)) lp out
theorem gZ (p:cX) (rs:List ByteArray) (t:Bk):∀ at_ lp out,((eQ p rs t at_ lp out).length:Int)=bV t:=by
 induction t with
 | nil=>intro _ _ _; rfl
 | cons x a b r vx xD GB=>
  intro at_ lp out
  unfold eQ
  rw [List.length_append,Int.natCast_add,GB]
  rw [show bV (.cons x a b r)=(if x.kind=12 then 2+bV a else if x.kind=11 then (if 0<x.fD then 1+bV a+bV b+1 else 1+bV a+bV b) else 1)+bV r from rfl]
  congr 1
  by_cases h1:x.kind=11
  ·simp only [if_pos h1,if_neg (show ¬ x.kind=12 by omega)]
   have ha:=vx (at_+1) lp out
   have hb:=xD (rj x a at_) lp out
   by_cases h2:0<x.fD
   ·simp only [if_pos h2,List.length_append,List.length_singleton]; omega
   ·simp only [if_neg h2,List.length_append,List.length_singleton,List.length_nil]; omega
  ·simp only [if_neg h1]
   by_cases h2:x.kind=12
   ·have ha:=vx (at_+1) (lp+1) (at_+2+bV a)
    simp only [if_pos h2,List.length_append,List.length_singleton]; omega
   ·simp only [if_neg h2]
    split <;> simp
def l8 (p:cX) (t:dQ):fm:=match oP t.body with | some b=>⟨t.aK.length,iS b,eQ p t.aK b 0 0 0⟩ | none=>⟨t.aK.length,0,[]⟩
def eB (p:cX):im:=
 ⟨(List.range (gF p).length).map (fun (i:Nat)=>l5 p i),et p,pe p,p.locks.length,p.threads.map (l8 p),(match p.recover[0]? with | some t=>l8 p t | none=>⟨0,0,[]⟩),p.cC.map (λ c=>gg (oR p) c.e)⟩
theorem C158 (lv:Value) (t:Bk) (N:Nat) (w:World) (hL:DL w lv t.flat) (gk:t.str) (hl:t.len≤1048576) (hN:t.len<N):CR 158 [lv] w (λ v w'=>v = .int .i64 (bV t)∧Ext w w'):=by
 have Ca:=t.cO;have hs:=St.start w;refine Zw _ _ _ ?_;unfold S158;obtain ⟨awS,FK,R6⟩:=(hL).open;have hn43:=R6.1;refine aJ j1 (FK.ext hs.aF) (aH (aC (λ gu=>?_) (λ gu=>?_)))
 ·cases t with
  | nil=>exact ⟨rfl,hs.aF⟩
  | cons x a b r=>exact absurd Ca (by rw [show (Bk.cons x a b r).len=a.len+b.len+r.len+1 from rfl]; omega)
 ·obtain ⟨x,a,b,r,rfl⟩:=Bk.CE (t:=t) (by omega);obtain ⟨ae4,we⟩:=gx awS (i:=((0:Int)).toNat) (by omega);obtain ⟨fi,uO⟩:=gx ((Bk.cons x a b r).flat) (i:=((0:Int)).toNat) (by omega);obtain ⟨xe,xf,rfl,acr,acs⟩:=R6.2 _ _ _ we uO;refine aQ j1 FK (by omega) we (λ _ KL=>?_);obtain rfl:fi=x:=(Option.some.inj uO).symm;have KU:=gk;obtain ⟨Fl,hg2,hg3,hg4,Vd,hgb,hgr⟩:=KU;have Tm:a.len+b.len+r.len+1≤1048576:=hl;have hNn:a.len+b.len+r.len+1<N:=hN;have Mw:=a.cO;have Qd:=b.cO;have hlr:=r.cO;have Qi:(Bk.cons fi a b r).flat.length=a.len+b.len+r.len+1:=Bk.cO _
  have hsa:=iR a;have hsb:=iR b;have hsr:=iR r;refine aD fW (KL.ext hs.aF) (aN hs qu (λ KZ w1 hs=>have hs:=hs.enc (cs':=Flat.enc (⟨0,(ByteArray.mk #[]),(ByteArray.mk #[]),⟨none,0,0⟩,⟨none,0,0⟩,0,0,0,0⟩:bX)) rfl;aI (x:=(⟨(fi).kind,(fi).gJ,(fi).name,xe,xf,(fi).n,(fi).body,(fi).fD,(fi).at_⟩:bX)) hs fW rfl rfl (λ w2 hs=>aA mV (have hs:=hs.drew;aB (v:=.int .i64 ((fi).body)) bL hs.hb rfl (aO (by omega) (aA iK (aB (v:=.int .i64 ((fi).fD)) bL hs.hb rfl (aO (by omega) ?_))))))));refine ⟨λ jv w'=>∃ n1:Int,jv = .int .i64 n1∧n1=(if fi.kind=11 then (if 0<fi.fD then 1+bV a+bV b+1 else 1+bV a+bV b) else 1)∧0≤n1∧n1≤4000000∧St w bD [cD KZ (Flat.enc (⟨(fi).kind,(fi).gJ,(fi).name,xe,xf,(fi).n,(fi).body,(fi).fD,(fi).at_⟩:bX))] w',?_,?_⟩
  ·refine aA fw (aB (v:=.int .i64 ((fi).kind)) bL hs.hb rfl (aH (aC (λ iM=>?_) (λ iM=>?_))))
   ·refine kn j1 (FK.ext hs.aF) (by omega) (by omega) (by omega) (λ aps aiS=>?_);have aiT:=DL.cut aiS FK R6;refine kn j1 (FK.ext hs.aF) (by omega) (by omega) (by omega) (λ Vu aiU=>?_);have aiV:=DL.cut aiU FK R6;have hs:=hs.drew;refine aZ Dc hs (C158 _ a (N - 1) _ (by have h:=aiT.ext hs.aF; rw [Bk.Nz gk (by omega) (by omega)] at h; exact h) Vd (by omega) (by omega)) (λ w3 he hs=>aO (by omega) (aZ Dc hs (C158 _ b (N - 1) _ (by have h:=aiV.ext hs.aF; rw [Bk.acp gk (by omega) (by omega)] at h; exact h) hgb (by omega) (by omega)) (λ w4 he hs=>aO (by omega) (aA iK (aB (v:=.int .i64 ((fi).fD)) bL hs.hb rfl (cZ (aC (λ lh=>?_) (λ lh=>?_))))))))
    ·refine aO (by omega) ?_;exact ⟨_,rfl,by grind,by omega,by omega,hs⟩
    ·exact ⟨_,rfl,by grind,by omega,by omega,hs⟩
   ·exact ⟨_,rfl,by grind,by omega,by omega,hs⟩
  ·rintro _ w5 ⟨n1,rfl,UP,awT,aoI,hs⟩ fy;refine ⟨λ jv w'=>∃ n2:Int,jv = .int .i64 n2∧n2=(if fi.kind=12 then 2+bV a else if fi.kind=11 then (if 0<fi.fD then 1+bV a+bV b+1 else 1+bV a+bV b) else 1)∧0≤n2∧n2≤4000000∧St w bD [cD KZ (Flat.enc (⟨(fi).kind,(fi).gJ,(fi).name,xe,xf,(fi).n,(fi).body,(fi).fD,(fi).at_⟩:bX))] w',?_,?_⟩
   ·refine aA fw (aB (v:=.int .i64 ((fi).kind)) bL hs.hb rfl (aH (aC (λ jX=>?_) (λ jX=>?_))))
    ·refine kn j1 (FK.ext hs.aF) (by omega) (by omega) (by omega) (λ apt aiW=>?_);have aiX:=DL.cut aiW FK R6;refine aZ Dc hs (C158 _ a (N - 1) _ (by have h:=aiX.ext hs.aF; rw [Bk.Nz gk (by omega) (by omega)] at h; exact h) Vd (by omega) (by omega)) (λ w6 he hs=>aO (by omega) ?_);exact ⟨_,rfl,by grind,by omega,by omega,hs⟩
    ·exact ⟨_,rfl,by grind,by omega,by omega,hs⟩
   ·rintro _ w7 ⟨n2,rfl,hn2,awg,hn21,hs⟩ jw;refine uL j1 (FK.ext hs.aF) (by omega) (by omega) (λ Vv aiY=>?_);have aiZ:=DL.PO aiY FK R6;refine aZ Dc hs (C158 _ r (N - 1) _ (by have h:=aiZ.ext hs.aF; rw [Bk.ack gk (by omega)] at h; exact h) hgr (by omega) (by omega)) (λ w8 he hs=>aO (by omega) ?_);exact ⟨congrArg (Value.int .i64) (by rw [hn2]; rfl),hs.drop.aF⟩
termination_by N
decreasing_by all_goals omega
theorem C103 (lv:Value) (t:Bk) (N:Nat) (w:World) (hL:DL w lv t.flat) (gk:t.str) (hl:t.len≤1048576) (hN:t.len<N):CR 103 [lv] w (λ v w'=>v = .int .i64 (iS t)∧Ext w w'):=by
 have Ca:=t.cO;have hs:=St.start w;refine YQ _ _ _ ?_;unfold S103;obtain ⟨awU,La,Vw⟩:=(hL).open;have hn44:=Vw.1;refine aJ j1 (La.ext hs.aF) (aH (aC (λ gu=>?_) (λ gu=>?_)))
 ·cases t with
  | nil=>exact ⟨rfl,hs.aF⟩
  | cons x a b r=>exact absurd Ca (by rw [show (Bk.cons x a b r).len=a.len+b.len+r.len+1 from rfl]; omega)
 ·obtain ⟨x,a,b,r,rfl⟩:=Bk.CE (t:=t) (by omega);obtain ⟨ae4,we⟩:=gx awU (i:=((0:Int)).toNat) (by omega);obtain ⟨fi,uO⟩:=gx ((Bk.cons x a b r).flat) (i:=((0:Int)).toNat) (by omega);obtain ⟨xe,xf,rfl,acr,acs⟩:=Vw.2 _ _ _ we uO;refine aQ j1 La (by omega) we (λ _ KL=>?_);obtain rfl:fi=x:=(Option.some.inj uO).symm;have KU:=gk;obtain ⟨Fl,hg2,hg3,hg4,Vd,hgb,hgr⟩:=KU;have Tm:a.len+b.len+r.len+1≤1048576:=hl;have hNn:a.len+b.len+r.len+1<N:=hN;have Mw:=a.cO;have Qd:=b.cO;have hlr:=r.cO;have Qi:(Bk.cons fi a b r).flat.length=a.len+b.len+r.len+1:=Bk.cO _
  have hsa:=sS a;have hsb:=sS b;have hsr:=sS r;refine aD fW (KL.ext hs.aF) (aN hs qu (λ KZ w1 hs=>have hs:=hs.enc (cs':=Flat.enc (⟨0,(ByteArray.mk #[]),(ByteArray.mk #[]),⟨none,0,0⟩,⟨none,0,0⟩,0,0,0,0⟩:bX)) rfl;aI (x:=(⟨(fi).kind,(fi).gJ,(fi).name,xe,xf,(fi).n,(fi).body,(fi).fD,(fi).at_⟩:bX)) hs fW rfl rfl (λ w2 hs=>aA mV (aB (v:=.int .i64 ((fi).body)) bL hs.hb rfl (aO (by omega) (aA iK (aB (v:=.int .i64 ((fi).fD)) bL hs.hb rfl (aO (by omega) (kn j1 (La.ext hs.aF) (by omega) (by omega) (by omega) (λ aoP ai0=>?_))))))))))
  have ai1:=DL.cut ai0 La Vw;refine kn j1 (La.ext hs.aF) (by omega) (by omega) (by omega) (λ PY Bf=>?_);have NA:=DL.cut Bf La Vw;have hs:=hs.drew;refine aZ Pc hs (C103 _ a (N - 1) _ (by have h:=ai1.ext hs.aF; rw [Bk.Nz gk (by omega) (by omega)] at h; exact h) Vd (by omega) (by omega)) (λ w3 he hs=>aZ Pc hs (C103 _ b (N - 1) _ (by have h:=NA.ext hs.aF; rw [Bk.acp gk (by omega) (by omega)] at h; exact h) hgb (by omega) (by omega)) (λ w4 he hs=>wX ?_));refine ⟨λ jv w'=>∃ n1:Int,jv = .int .i64 n1∧n1=(if fi.kind=12 then max (iS a) (iS b)+1 else max (iS a) (iS b))∧0≤n1∧n1≤4000000∧St w bD [cD KZ (Flat.enc (⟨(fi).kind,(fi).gJ,(fi).name,xe,xf,(fi).n,(fi).body,(fi).fD,(fi).at_⟩:bX))] w',?_,?_⟩
  ·refine aA fw (aB (v:=.int .i64 ((fi).kind)) bL hs.hb rfl (aH (aC (λ jH=>?_) (λ jH=>?_))))
   ·refine aO (by omega) ?_;exact ⟨_,rfl,by grind,by omega,by omega,hs⟩
   ·exact ⟨_,rfl,by grind,by omega,by omega,hs⟩
  ·rintro _ w5 ⟨n1,rfl,UP,awT,aoI,hs⟩ fy;refine uL j1 (La.ext hs.aF) (by omega) (by omega) (λ ae9 ai2=>?_);have ai3:=DL.PO ai2 La Vw;refine aZ Pc hs (C103 _ r (N - 1) _ (by have h:=ai3.ext hs.aF; rw [Bk.ack gk (by omega)] at h; exact h) hgr (by omega) (by omega)) (λ w6 he hs=>wX ?_);exact ⟨congrArg (Value.int .i64) (by rw [UP]; rfl),hs.drop.aF⟩
termination_by N
decreasing_by all_goals omega
theorem Vx (t:Bk):∀ n:Int,kr t→1≤n→oE t n=false→n * rP t≤128 * (t.len:Int)∧0≤rP t:=by
 induction t with
 | nil=>intro n _ _ _; simp [rP,Bk.len]
 | cons x a b r vx xD GB=>
  intro n hq hn hw
  unfold oE at hw
  simp only [Bool.or_eq_false_iff,decide_eq_false_iff_not] at hw
  obtain ⟨⟨h64,ha,hb⟩,hr⟩:=hw
  have hm1:1≤sm x n:=by
   unfold sm
   split
   ·rename_i hk
    have:=hq.x hk
    have:=Int.mul_le_mul (a:=1) (b:=1) hn this.1 (by omega) (by omega)
    omega
   ·exact hn
  have h1:=vx _ hq.a hm1 ha
  have h2:=xD _ hq.b hm1 hb
  have h3:=GB _ hq.r hn hr
  have hnn:=acq _ hq
  refine ⟨?_,hnn⟩
  have hl:((Bk.cons x a b r).len:Int)=a.len+b.len+r.len+1:=rfl
  rw [hl,show rP (.cons x a b r)=(if x.kind=12 then x.n * rP a else if x.kind=11 then max (rP a) (rP b) else Em x.kind)+rP r from rfl,Int.mul_add]
  have key:n * (if x.kind=12 then x.n * rP a else if x.kind=11 then max (rP a) (rP b) else Em x.kind)≤128 * (a.len+b.len+1):=by
   by_cases hk:x.kind=12
   ·rw [if_pos hk,← Int.mul_assoc]
    have:sm x n=n * x.n:=by unfold sm; rw [if_pos hk]
    rw [this] at h1; omega
   ·have hwn:sm x n=n:=by unfold sm; rw [if_neg hk]
    rw [hwn] at h1 h2 h64
    rw [if_neg hk]
    split
    ·rcases Int.le_total (rP a) (rP b) with h | h
     ·rw [Int.max_eq_right h]; omega
     ·rw [Int.max_eq_left h]; omega
    ·have hc:=Vt x.kind
     have:=Int.mul_le_mul (a:=n) (b:=Em x.kind) (c:=64) (d:=2) (by omega) hc.2 hc.1 (by omega)
     omega
  omega
structure Bg (p:cX):Prop where
 right:l4 p=true
 big:zP p=false
 awW:∀ t∈iG p,vm t.body=false
 twice:rf (jz p)=false
 aK:∀ t∈iG p,FI p t.aK=false
 names:∀ t∈iG p,∀ x∈t.body,om p t.aK x=false
 cC:∀ c∈p.cC,vl c.e (oR p)=false
theorem En {p:cX} (h:gK p=0):Bg p:=by
 unfold gK at h
 split at h
 ·omega
 ·rename_i h1
  split at h
  ·omega
  ·rename_i h2
   split at h
   ·omega
   ·rename_i h3
    split at h
    ·omega
    ·rename_i h4
     split at h
     ·omega
     ·rename_i h5
      split at h
      ·omega
      ·rename_i h6
       split at h
       ·omega
       ·rename_i h7
        simp only [Bool.not_eq_true,Bool.not_eq_false,List.any_eq_false] at h1 h2 h3 h4 h5 h6 h7
        exact ⟨h1,h2,λ t ht=>h3 t ht,h4,λ t ht=>h5 t ht,λ t ht x hx=>h6 t ht x hx,λ c hc=>h7 c hc⟩
theorem Bg.tree {p:cX} (h:Bg p) {t:dQ} (ht:t∈iG p):∃ b:Bk,t.body=b.flat∧b.str∧b.ok 0=true∧b.len≤40∧kr b∧(∀ x∈b.flat,q9 x=true)∧oE b 1=false∧oP t.body=some b∧0≤rP b∧rP b≤5120:=by
 obtain ⟨h1,h2,b,h3,h4,h5,_⟩:=nB ((wh h.right).nf ht).2.1
 have hl:b.len≤40:=by rw [← Bk.cO,← h3]; exact h1
 have hq:kr b:=λ x hx=>(Ns (h2 x (by rw [h3]; exact hx))).2
 have hw:oE b 1=false:=by have:=h.awW t ht; rw [h3,yq h4] at this; exact this
 have hs:=Vx b 1 hq (by omega) hw
 exact ⟨b,h3,h4,h5,hl,hq,λ x hx=>h2 x (by rw [h3]; exact hx),hw,by rw [h3]; exact oQ h4,hs.2,by omega⟩
def FL (p:cX) (rs:List ByteArray) (x:cE) (a b:Bk) (at_ lp out:Int):List aW:=
  if x.kind=11 then [⟨12,0,0,gg rs x.e,[],rj x a at_⟩]++eQ p rs a (at_+1) lp out++(if 0<x.fD then [⟨11,0,0,[],[],rj x a at_+bV b⟩] else [])++eQ p rs b (rj x a at_) lp out
   else if x.kind=12 then [⟨13,lp,x.n,[],[],0⟩]++eQ p rs a (at_+1) (lp+1) (at_+2+bV a)++[⟨14,lp,0,[],[],at_+1⟩]
   else if x.kind=13 then [⟨11,0,0,[],[],out⟩] else [lD p rs x]
theorem uW (p:cX) (rs:List ByteArray) (x:cE) (a b r:Bk) (at_ lp out:Int):eQ p rs (.cons x a b r) at_ lp out=FL p rs x a b at_ lp out++eQ p rs r (at_+((FL p rs x a b at_ lp out).length:Int)) lp out:=by
 have h1:=gZ p rs (.cons x a b r) at_ lp out
 have e:eQ p rs (.cons x a b r) at_ lp out=FL p rs x a b at_ lp out++eQ p rs r (at_+(bV (.cons x a b r) - bV r)) lp out:=rfl
 have h2:=gZ p rs r (at_+(bV (.cons x a b r) - bV r)) lp out
 rw [e,List.length_append] at h1
 rw [e,show ((FL p rs x a b at_ lp out).length:Int)=bV (.cons x a b r) - bV r from by omega]
theorem Iw (p:cX) (rs:List ByteArray) (x:cE) (a b r:Bk) (at_ lp out:Int):((FL p rs x a b at_ lp out).length:Int)=bV (.cons x a b r) - bV r:=by
 have h1:=gZ p rs (.cons x a b r) at_ lp out
 have h2:=gZ p rs r (at_+(bV (.cons x a b r) - bV r)) lp out
 have e:eQ p rs (.cons x a b r) at_ lp out=FL p rs x a b at_ lp out++eQ p rs r (at_+(bV (.cons x a b r) - bV r)) lp out:=rfl
 rw [e,List.length_append] at h1
 omega
def Lb:fm:=⟨0,0,[]⟩
def Eo:im:=⟨[],0,[],0,[],Lb,[]⟩
def Lc (p:cX):fm:=match p.recover[0]? with | some t=>l8 p t | none=>Lb
theorem Ep {p:cX} {t:dQ} {b:Bk} (h:oP t.body=some b):l8 p t=⟨t.aK.length,iS b,eQ p t.aK b 0 0 0⟩:=by unfold l8; rw [h]
theorem C159 (q:UF) (qv:vV) (x:cE) (xv:bX) (w:World) (hv:cA.dr w qv q) (hx:cA.dr w xv x) (hz:PZ q.p) (BR:q.aK.length≤500) (hzx:SzS x):CR 159 [Flat.val qv,Flat.val xv] w (λ v w'=>∃ iv:bU,v=Flat.val iv∧lW (eX (λ w=>cA.dr w iv (lD q.p q.aK x))) w w'):=by
 obtain ⟨apu,oo,rfl,Vy,pK⟩:=hv;obtain ⟨eL,eZ,eM,dV,dW,ep,rfl,jJ,kP,jK,ie,ig,iT⟩:=Vy;obtain ⟨zI,zJ,rfl,KM,GD⟩:=hx;have Ql:=l6 hz.toPS;have KF:(gY q.p).length≤500:=by unfold gY; rw [List.length_map]; exact hz.locks
 have hs:=St.start w;refine Zx _ _ _ _ ?_;unfold S159;refine dE hs (λ b_v2 w1 hs=>dE hs (λ KZ w2 hs=>aN hs mn (λ Cf w3 hs=>have hs:=hs.enc (cs':=Flat.enc (⟨0,0,0,⟨none,0,0⟩,⟨none,0,0⟩,0⟩:bU)) rfl;aA zs (have hs:=hs.drew;aB pw hs.p2.hb rfl ?_))));have ai5:=DL.flat (pK);refine aA lS (aB (v:=.string ((x).gJ)) j5 hs.p1.hb rfl (aA Dr (uK (⟨eL,eZ,eM,dV,dW,ep⟩:bN) gI hs.p2.hb rfl (aA jh (aB (v:=.string ((x).name)) j5 hs.p1.hb rfl (aZ AS hs (C98 _ (q).aK _ _ (ai5.ext hs.aF) (by omega)) (λ w4 he hs=>?_)))))))
 refine ⟨Ij (⟨eL,eZ,eM,dV,dW,ep⟩:bN) gI hs.p2.hb rfl,?_⟩;refine ⟨aG j5 (hs.p1.hb.cell rfl),?_⟩;refine wX (dB TP hs (C46 (q).p _ _ ⟨eL,eZ,eM,dV,dW,ep,rfl,(jJ.ext hs.aF),(kP.ext hs.aF),(jK.ext hs.aF),(ie.ext hs.aF),(ig.ext hs.aF),(iT.ext hs.aF)⟩ hz) (λ x20 w5 bZ hs=>?_));refine ⟨aG j5 (hs.p2.hb.cell rfl),?_⟩;refine aZ AS hs (C98 _ (fb (q).p) _ _ (hs).fK (by omega)) (λ w6 he hs=>aA lT (aB mR hs.p2.hb rfl ?_));have awX:=DL.flat (KM)
 refine aA zs (aB pw hs.p3.hb rfl (ey YL (C45 _ _ _ _ _ (awX.ext hs.aF) (ai5.ext hs.aF) hzx.2.2.1 (by omega) hzx.2.2.2.2.1) ?_));rintro _ w7 ⟨ae3,rfl,bZ⟩;have hs:=hs.made bZ;refine bE rfl (bE rfl (aA nU (aB mR hs.p3.hb rfl ?_)));have awY:=DL.flat (GD);refine aA zs (aB pw hs.p4.hb rfl (ey YL (C45 _ _ _ _ _ (awY.ext hs.aF) (ai5.ext hs.aF) hzx.2.2.2.1 (by omega) hzx.2.2.2.2.2) ?_));rintro _ w8 ⟨aoY,rfl,bZ⟩;have hs:=hs.made bZ;refine bE rfl (bE rfl (aA fw (aB (v:=.int .i64 ((x).kind)) bL hs.p4.hb rfl ?_)));obtain ⟨uX,rfl⟩:=(hs.p1).fQ;obtain ⟨oT,rfl⟩:=(hs).fQ
 refine pop (Ds _ _ _ _ _ _ _ _) (aN hs mn (λ apv w9 hs=>have hs:=hs.enc (cs':=Flat.enc (⟨0,0,0,⟨none,0,0⟩,⟨none,0,0⟩,0⟩:bU)) rfl;aI (x:=(⟨(x).kind,(max 0 (dO (q).aK (x).gJ)),0,uX,oT,0⟩:bU)) hs lG rfl rfl (λ pQ hs=>?_)));refine ⟨λ w'=>∃ kk bb:Int,kk=(if x.kind=14 then 15 else x.kind)∧bb=(if x.kind=2∨x.kind=3∨x.kind=4 then dO (fb q.p) x.name else if x.kind=5∨x.kind=6 then l5 q.p (dO (fb q.p) x.name) else if x.kind=9∨x.kind=10 then dO (gY q.p) x.name else 0)∧St w bD [cD apv (Flat.enc (⟨kk,max 0 (dO q.aK x.gJ),bb,uX,oT,0⟩:bU)),bK (Flat.val uX) (gg q.aK x.e),bK (Flat.val oT) (gg q.aK x.f),cD Cf (Flat.enc (⟨0,0,0,⟨none,0,0⟩,⟨none,0,0⟩,0⟩:bU))] w',?_,?_⟩
 ·refine aA fw (aB (v:=.int .i64 ((x).kind)) bL hs.p5.hb rfl ?_);refine ⟨λ jv w'=>jv = .bool (decide (x.kind=2∨x.kind=3∨x.kind=4))∧pQ=w',?_,?_⟩
  ·refine aH (aC (λ vn=>?_) (λ vn=>?_))
   ·exact ⟨xu (by omega),rfl⟩
   ·refine aH (aC (λ oe=>?_) (λ oe=>?_))
    ·exact ⟨xu (by omega),rfl⟩
    ·refine aH ?_;exact ⟨xu (by omega),rfl⟩
  ·rintro _ sP ⟨rfl,hw⟩ fy;subst hw;refine aC (λ zK=>?_) (λ zK=>?_)
   ·refine aA eV (aV hs bL (eF rfl) (rfl) (λ vi hs=>?_));have hs:=hs.enc (cs':=Flat.enc (⟨(x).kind,(max 0 (dO (q).aK (x).gJ)),(dO (fb (q).p) (x).name),uX,oT,0⟩:bU)) rfl;have hs:=(((hs.p3.drop.p4.drop.p4.drop.p3).p2).p3).p3;exact ⟨_,_,by grind,by grind,hs⟩
   ·refine ⟨λ jv w'=>jv = .bool (decide (x.kind=5∨x.kind=6))∧pQ=w',?_,?_⟩
    ·refine aH (aC (λ Ec=>?_) (λ Ec=>?_))
     ·exact ⟨xu (by omega),rfl⟩
     ·refine aH ?_;exact ⟨xu (by omega),rfl⟩
    ·rintro _ vj ⟨rfl,hw⟩ jw;subst hw;refine aC (λ wi=>?_) (λ wi=>?_)
     ·refine aA Dr (uK (⟨eL,eZ,eM,dV,dW,ep⟩:bN) gI hs.p6.hb rfl (aZ amr hs (C43 (q).p _ _ _ ⟨eL,eZ,eM,dV,dW,ep,rfl,(jJ.ext hs.aF),(kP.ext hs.aF),(jK.ext hs.aF),(ie.ext hs.aF),(ig.ext hs.aF),(iT.ext hs.aF)⟩ hz) (λ sd he hs=>aA eV (aV hs bL (eF rfl) (rfl) (λ vW hs=>?_)))));have hs:=hs.enc (cs':=Flat.enc (⟨(x).kind,(max 0 (dO (q).aK (x).gJ)),(l5 (q).p (dO (fb (q).p) (x).name)),uX,oT,0⟩:bU)) rfl;have hs:=(((hs.p3.drop.p4.drop.p4.drop.p3).p2).p3).p3
      exact ⟨_,_,by grind,by grind,hs⟩
     ·refine ⟨λ jv w'=>jv = .bool (decide (x.kind=9∨x.kind=10))∧pQ=w',?_,?_⟩
      ·refine aH (aC (λ Vz=>?_) (λ Vz=>?_))
       ·exact ⟨xu (by omega),rfl⟩
       ·refine aH ?_;exact ⟨xu (by omega),rfl⟩
      ·rintro _ yM ⟨rfl,hw⟩ oN;subst hw;refine aC (λ sj=>?_) (λ sj=>?_)
       ·refine aA Dr (have hs:=hs.drew;uK (⟨eL,eZ,eM,dV,dW,ep⟩:bN) gI hs.p6.hb rfl (aA jh (aB (v:=.string ((x).name)) j5 hs.p5.hb rfl (dB ahG hs (C99 (q).p _ _ ⟨eL,eZ,eM,dV,dW,ep,rfl,(jJ.ext hs.aF),(kP.ext hs.aF),(jK.ext hs.aF),(ie.ext hs.aF),(ig.ext hs.aF),(iT.ext hs.aF)⟩ hz) (λ x67 Cd bZ hs=>?_)))));refine ⟨aG j5 (hs.p6.hb.cell rfl),?_⟩;refine aZ AS hs (C98 _ (gY (q).p) _ _ (hs).fK (by omega)) (λ Il he hs=>aA eV (aV hs.p1 bL (eF rfl) (rfl) (λ Jo hs=>?_)))
        have hs:=hs.enc (cs':=Flat.enc (⟨(x).kind,(max 0 (dO (q).aK (x).gJ)),(dO (gY (q).p) (x).name),uX,oT,0⟩:bU)) rfl;have hs:=((((hs.p1.drop.p3.drop.p4.drop.p4.drop).p3).p2).p3).p3;exact ⟨_,_,by grind,by grind,hs⟩
       ·refine aH (aC (λ KJ=>?_) (λ KJ=>?_))
        ·refine aA je (aV hs bL (eF rfl) (rfl) (λ KA hs=>?_));have hs:=hs.enc (cs':=Flat.enc (⟨15,(max 0 (dO (q).aK (x).gJ)),0,uX,oT,0⟩:bU)) rfl;have hs:=(((hs.p3.drop.p4.drop.p4.drop.p3).p2).p3).p3;exact ⟨_,_,by grind,by grind,hs⟩
        ·have hs:=(((hs.p3.drop.p4.drop.p4.drop.p3).p2).p3).p3;exact ⟨_,_,by grind,by grind,hs⟩
 ·rintro Mx ⟨kk,bb,ng,hbb,hs⟩ GF;refine aD lG hs.At (aI (x:=(⟨kk,max 0 (dO q.aK x.gJ),bb,uX,oT,0⟩:bU)) hs.p3 lG rfl rfl (λ Qp hs=>aD lG hs.At ?_));have hs:=hs.p2.freeze.p3.freeze.p1.fL.dN (Ψ:=(λ w=>cA.dr w (⟨kk,max 0 (dO q.aK x.gJ),bb,uX,oT,0⟩:bU) (⟨kk,max 0 (dO q.aK x.gJ),bb,(gg q.aK x.e),(gg q.aK x.f),0⟩:aW))) (λ w h=>⟨_,_,rfl,DL.fp h.1,DL.fp h.2⟩);have hs:=((hs.p1.drop).p1).drop;have h1:lD q.p q.aK x=(⟨kk,max 0 (dO q.aK x.gJ),bb,gg q.aK x.e,gg q.aK x.f,0⟩:aW):=by unfold lD; rw [← ng,← hbb]
  exact ⟨_,rfl,by rw [h1]; exact hs.fresh⟩
set_option maxHeartbeats 4000000 in
theorem C104 (q:UF) (qv:vV) (lv:Value) (t:Bk) (at_ lp out:Int) (N:Nat) (w:World) (hv:cA.dr w qv q) (hL:DL w lv t.flat) (hz:PZ q.p) (BR:q.aK.length≤500) (gk:t.str) (hq:∀ x∈t.flat,SzS x) (hb:(0≤at_∧at_+bV t≤16777216)∧(0≤lp∧lp+t.len≤16777216)) (hl:t.len≤1048576) (hN:t.len<N) (hN2:0<N):CR 104 [Flat.val qv,lv,.int .i64 at_,.int .i64 lp,.int .i64 out] w (λ v w'=>lW (fj v (eQ q.p q.aK t at_ lp out)) w w'):=by
 obtain ⟨apu,oo,rfl,Vy,pK⟩:=hv;obtain ⟨eL,eZ,eM,dV,dW,ep,rfl,jJ,kP,jK,ie,ig,iT⟩:=Vy;have Ca:=t.cO;have hs:=St.start w;refine YR _ _ _ _ _ _ _ ?_;unfold S104;refine dE hs (λ acv w1 hs=>?_);obtain ⟨awZ,Ld,VA⟩:=(hL).open;have hn49:=VA.1;refine aJ j1 (Ld.ext hs.aF) (aH (aC (λ iO=>?_) (λ iO=>?_)))
 ·cases t with
  | nil=>exact (hs.xC (α:=aW)).fresh
  | cons x a b r=>exact absurd Ca (by rw [show (Bk.cons x a b r).len=a.len+b.len+r.len+1 from rfl]; omega)
 ·obtain ⟨x,a,b,r,rfl⟩:=Bk.CE (t:=t) (by omega);obtain ⟨GL,pX⟩:=gx awZ (i:=((0:Int)).toNat) (by omega);obtain ⟨ek,wu⟩:=gx ((Bk.cons x a b r).flat) (i:=((0:Int)).toNat) (by omega);obtain ⟨xg,xh,rfl,Iy,Qr⟩:=VA.2 _ _ _ pX wu;refine aQ j1 Ld (by omega) pX (λ _ ud=>?_);obtain rfl:ek=x:=(Option.some.inj wu).symm;have KU:=gk;obtain ⟨Fl,hg2,hg3,hg4,Vd,hgb,hgr⟩:=KU;have Tm:a.len+b.len+r.len+1≤1048576:=hl;have hNn:a.len+b.len+r.len+1<N:=hN;have Mw:=a.cO;have Qd:=b.cO;have hlr:=r.cO;have Qi:(Bk.cons ek a b r).flat.length=a.len+b.len+r.len+1:=Bk.cO _
  have hsa:=iR a;have hsb:=iR b;have hsr:=iR r;have hSe:bV (.cons ek a b r)=(if ek.kind=12 then 2+bV a else if ek.kind=11 then (if 0<ek.fD then 1+bV a+bV b+1 else 1+bV a+bV b) else 1)+bV r:=rfl;have hqx:=hq ek (by simp [Bk.flat]);refine aD fW (ud.ext hs.aF) (aN hs qu (λ VB w2 hs=>have hs:=hs.enc (cs':=Flat.enc (⟨0,(ByteArray.mk #[]),(ByteArray.mk #[]),⟨none,0,0⟩,⟨none,0,0⟩,0,0,0,0⟩:bX)) rfl;aI (x:=(⟨(ek).kind,(ek).gJ,(ek).name,xg,xh,(ek).n,(ek).body,(ek).fD,(ek).at_⟩:bX)) hs fW rfl rfl (λ w3 hs=>aA mV (aB (v:=.int .i64 ((ek).body)) bL hs.hb rfl (aO (by omega) (aA iK (aB (v:=.int .i64 ((ek).fD)) bL hs.hb rfl (aO (by omega) (kn j1 (Ld.ext hs.aF) (by omega) (by omega) (by omega) (λ ae7 ai6=>?_))))))))))
  have Iz:=DL.cut ai6 Ld VA;refine kn j1 (Ld.ext hs.aF) (by omega) (by omega) (by omega) (λ apw ai7=>?_);have VC:=DL.cut ai7 Ld VA;have hs:=hs.drew;refine vS (α:=aW) hs kK (λ VD w4 hs=>?_);refine ⟨λ JO w'=>St w bD [fj JO (FL q.p q.aK ek a b at_ lp out),cD acv (Flat.enc (⟨(⟨eL,eZ,eM,dV,dW,ep⟩:bN),oo⟩:vV))] w',?_,?_⟩
  ·refine aA fw (aB (v:=.int .i64 ((ek).kind)) bL hs.p1.hb rfl (aH (aC (λ pF=>?_) (λ pF=>?_))))
   ·have aw0:bV (.cons ek a b r)=(if 0<ek.fD then 1+bV a+bV b+1 else 1+bV a+bV b)+bV r:=by rw [hSe,if_neg (by omega),if_pos (by omega)]
    have hma:=gZ q.p q.aK a (at_+1) lp out;have aw1:1+bV a+bV b+bV r≤bV (.cons ek a b r):=by rw [aw0]; split <;> omega
    refine aA lT (aB mR hs.p1.hb rfl ?_);have aw2:=DL.flat (Iy);refine aA zs (aB pw hs.p2.hb rfl ?_);have aw3:=DL.flat (pK);refine ey YL (C45 _ _ _ _ _ (aw2.ext hs.aF) (aw3.ext hs.aF) hqx.2.2.1 (by omega) hqx.2.2.2.2.1) ?_;rintro _ w5 ⟨apx,rfl,bZ⟩;have hs:=hs.made bZ;refine bE rfl (bE rfl (aO (by omega) (aZ Dc hs (C158 _ a (a.len+1) _ (by have h:=Iz.ext hs.aF; rw [Bk.Nz gk (by omega) (by omega)] at h; exact h) Vd (by omega) (by omega)) (λ w6 he hs=>aO (by omega) ?_))));refine ⟨λ jv w'=>∃ to:Int,jv = .int .i64 to∧to=rj ek a at_∧0≤to∧to≤at_+2+bV a∧St w bD [bK apx (gg q.aK ek.e),fj VD ([]:List aW),cD VB (Flat.enc (⟨(ek).kind,(ek).gJ,(ek).name,xg,xh,(ek).n,(ek).body,(ek).fD,(ek).at_⟩:bX)),cD acv (Flat.enc (⟨(⟨eL,eZ,eM,dV,dW,ep⟩:bN),oo⟩:vV))] w',?_,?_⟩
    ·refine aA iK (aB (v:=.int .i64 ((ek).fD)) bL hs.p2.hb rfl (cZ (aC (λ oh=>?_) (λ oh=>?_))))
     ·refine aO (by omega) ?_;have hs:=hs.p3.p3.p3.p3;exact ⟨_,rfl,by unfold rj; grind,by omega,by omega,hs⟩
     ·have hs:=hs.p3.p3.p3.p3;exact ⟨_,rfl,by unfold rj; grind,by omega,by omega,hs⟩
    ·rintro _ w7 ⟨to,rfl,hto,hto0,hto1,hs⟩ fy;obtain ⟨VE,rfl⟩:=(hs).fQ;refine pop (Ia _ _ _ _ _) (have hs:=hs.freeze.dN (Ψ:=(λ w=>cA.dr w (⟨12,0,0,VE,⟨none,0,0⟩,to⟩:bU) (⟨12,0,0,(gg ((q).aK) ((ek).e)),[],to⟩:aW))) (λ w h=>⟨_,_,rfl,DL.fp h,DL.nil _⟩);eJ (s:=(⟨12,0,0,VE,⟨none,0,0⟩,to⟩:bU)) (x:=(⟨12,0,0,(gg ((q).aK) ((ek).e)),[],to⟩:aW)) hs kK (by decide) (λ afa w8 hs=>have hs:=hs.p1;dZ hs kK (by simp only [List.length_append,List.length_cons,List.length_nil]; omega) (by decide) (λ apy w9 hs=>aD BK hs.p2.At (aO (by omega) (dB JQ hs (C104 q _ _ a (at_+1) (lp) (out) (N - 1) _ ⟨(⟨eL,eZ,eM,dV,dW,ep⟩:bN),oo,rfl,⟨eL,eZ,eM,dV,dW,ep,rfl,(jJ.ext hs.aF),(kP.ext hs.aF),(jK.ext hs.aF),(ie.ext hs.aF),(ig.ext hs.aF),(iT.ext hs.aF)⟩,(pK.ext hs.aF)⟩ (by have h:=Iz.ext hs.aF; rw [Bk.Nz gk (by omega) (by omega)] at h; exact h) hz BR Vd (λ y hy=>hq y (by simp [Bk.flat,hy])) (by omega) (by omega) (by omega) (by omega)) (λ x83 pQ bZ hs=>have hs:=hs.p1;dZ hs kK (by simp only [List.length_append,List.length_cons,List.length_nil]; omega) (by decide) (λ afb sP hs=>?_)))))))
     refine ⟨λ r16 w'=>St w bD [fj r16 (((([]:List aW)++[(⟨12,0,0,(gg (q.aK) ((ek).e)),[],to⟩:aW)])++(eQ q.p q.aK a (at_+1) (lp) (out)))++(if 0<ek.fD then [(⟨11,0,0,[],[],(to+(bV b))⟩:aW)] else [])),cD VB (Flat.enc (⟨(ek).kind,(ek).gJ,(ek).name,xg,xh,(ek).n,(ek).body,(ek).fD,(ek).at_⟩:bX)),cD acv (Flat.enc (⟨(⟨eL,eZ,eM,dV,dW,ep⟩:bN),oo⟩:vV))] w',?_,?_⟩
     ·refine aA iK (aB (v:=.int .i64 ((ek).fD)) bL hs.p1.hb rfl (cZ (aC (λ zL=>?_) (λ zL=>?_))))
      ·refine aZ Dc hs (C158 _ b (b.len+1) _ (by have h:=VC.ext hs.aF; rw [Bk.acp gk (by omega) (by omega)] at h; exact h) hgb (by omega) (by omega)) (λ vi he hs=>aO (by omega) (pop (Dt _ _) (have hs:=hs.gE (Φ:=(λ w=>cA.dr w (⟨11,0,0,⟨none,0,0⟩,⟨none,0,0⟩,(to+(bV b))⟩:bU) (⟨11,0,0,[],[],(to+(bV b))⟩:aW))) (λ w=>⟨_,_,rfl,DL.nil _,DL.nil _⟩);eJ (s:=(⟨11,0,0,⟨none,0,0⟩,⟨none,0,0⟩,(to+(bV b))⟩:bU)) (x:=(⟨11,0,0,[],[],(to+(bV b))⟩:aW)) hs kK (by decide) (λ s_x94 vj hs=>have hs:=hs.p1;dZ hs kK (by simp only [List.length_append,List.length_cons,List.length_nil]; omega) (by decide) (λ s_x95 sd hs=>?_)))))
       have hs:=hs.p2.p2.p2;have hh:(((([]:List aW)++[(⟨12,0,0,(gg ((q).aK) ((ek).e)),[],to⟩:aW)])++(eQ q.p q.aK a (at_+1) (lp) (out)))++[(⟨11,0,0,[],[],(to+(bV b))⟩:aW)])=(((([]:List aW)++[(⟨12,0,0,(gg (q.aK) ((ek).e)),[],to⟩:aW)])++(eQ q.p q.aK a (at_+1) (lp) (out)))++(if 0<ek.fD then [(⟨11,0,0,[],[],(to+(bV b))⟩:aW)] else [])):=by rw [if_pos (by omega)]
       rw [hh] at hs;exact hs
      ·have hs:=hs.p2.p2.p2;have hh:((([]:List aW)++[(⟨12,0,0,(gg ((q).aK) ((ek).e)),[],to⟩:aW)])++(eQ q.p q.aK a (at_+1) (lp) (out)))=(((([]:List aW)++[(⟨12,0,0,(gg (q.aK) ((ek).e)),[],to⟩:aW)])++(eQ q.p q.aK a (at_+1) (lp) (out)))++(if 0<ek.fD then [(⟨11,0,0,[],[],(to+(bV b))⟩:aW)] else [])):=by rw [if_neg (by omega)]; simp
       rw [hh] at hs;exact hs
     ·rintro r16 vW hs jw;have tn:=gZ q.p q.aK b to lp out;refine aD BK hs.p2.At (dB JQ hs (C104 q _ _ b (to) (lp) (out) (N - 1) _ ⟨(⟨eL,eZ,eM,dV,dW,ep⟩:bN),oo,rfl,⟨eL,eZ,eM,dV,dW,ep,rfl,(jJ.ext hs.aF),(kP.ext hs.aF),(jK.ext hs.aF),(ie.ext hs.aF),(ig.ext hs.aF),(iT.ext hs.aF)⟩,(pK.ext hs.aF)⟩ (by have h:=VC.ext hs.aF; rw [Bk.acp gk (by omega) (by omega)] at h; exact h) hz BR hgb (λ y hy=>hq y (by simp [Bk.flat,hy])) (by rw [hto]; unfold rj; split <;> omega) (by omega) (by omega) (by omega)) (λ x102 yM bZ hs=>have hs:=hs.p1;dZ hs kK (by simp only [List.length_append,List.length_cons,List.length_nil]; split <;> simp only [List.length_cons,List.length_nil] <;> omega) (by decide) (λ aw5 Cd hs=>?_)))
      have hs:=(hs.p1.drop.p1).p1;have hh:((((([]:List aW)++[(⟨12,0,0,(gg (q.aK) ((ek).e)),[],to⟩:aW)])++(eQ q.p q.aK a (at_+1) (lp) (out)))++(if 0<ek.fD then [(⟨11,0,0,[],[],(to+(bV b))⟩:aW)] else []))++(eQ q.p q.aK b (to) (lp) (out)))=FL q.p q.aK ek a b at_ lp out:=by unfold FL; simp [*]
      rw [hh] at hs;exact hs
   ·refine aH (aC (λ Bh=>?_) (λ Bh=>?_))
    ·have aw1:bV (.cons ek a b r)=2+bV a+bV r:=by rw [hSe,if_pos (by omega)]
     have hma:=gZ q.p q.aK a (at_+1) (lp+1) (at_+2+bV a);refine aO (by omega) (aZ Dc hs (C158 _ a (a.len+1) _ (by have h:=Iz.ext hs.aF; rw [Bk.Nz gk (by omega) (by omega)] at h; exact h) Vd (by omega) (by omega)) (λ Il he hs=>aO (by omega) (aA tL (aB (v:=.int .i64 ((ek).n)) bL hs.p1.hb rfl (pop (H8 _ _ _) (have hs:=hs.gE (Φ:=(λ w=>cA.dr w (⟨13,lp,(ek).n,⟨none,0,0⟩,⟨none,0,0⟩,0⟩:bU) (⟨13,lp,(ek).n,[],[],0⟩:aW))) (λ w=>⟨_,_,rfl,DL.nil _,DL.nil _⟩);eJ (s:=(⟨13,lp,(ek).n,⟨none,0,0⟩,⟨none,0,0⟩,0⟩:bU)) (x:=(⟨13,lp,(ek).n,[],[],0⟩:aW)) hs kK (by decide) (λ ai8 Jo hs=>have hs:=hs.p1;dZ hs kK (by simp only [List.length_append,List.length_cons,List.length_nil]; omega) (by decide) (λ aw6 KA hs=>aD BK hs.p2.At (aO (by omega) (aO (by omega) (dB JQ hs (C104 q _ _ a (at_+1) (lp+1) (at_+2+bV a) (N - 1) _ ⟨(⟨eL,eZ,eM,dV,dW,ep⟩:bN),oo,rfl,⟨eL,eZ,eM,dV,dW,ep,rfl,(jJ.ext hs.aF),(kP.ext hs.aF),(jK.ext hs.aF),(ie.ext hs.aF),(ig.ext hs.aF),(iT.ext hs.aF)⟩,(pK.ext hs.aF)⟩ (by have h:=Iz.ext hs.aF; rw [Bk.Nz gk (by omega) (by omega)] at h; exact h) hz BR Vd (λ y hy=>hq y (by simp [Bk.flat,hy])) (by omega) (by omega) (by omega) (by omega)) (λ x126 Mx bZ hs=>have hs:=hs.p1;dZ hs kK (by simp only [List.length_append,List.length_cons,List.length_nil]; omega) (by decide) (λ aw7 Qp hs=>?_)))))))))))))
     refine aO (by omega) (pop (H9 _ _ _) (have hs:=hs.gE (Φ:=(λ w=>cA.dr w (⟨14,lp,0,⟨none,0,0⟩,⟨none,0,0⟩,(at_+1)⟩:bU) (⟨14,lp,0,[],[],(at_+1)⟩:aW))) (λ w=>⟨_,_,rfl,DL.nil _,DL.nil _⟩);eJ (s:=(⟨14,lp,0,⟨none,0,0⟩,⟨none,0,0⟩,(at_+1)⟩:bU)) (x:=(⟨14,lp,0,[],[],(at_+1)⟩:aW)) hs kK (by decide) (λ aw8 Tn hs=>have hs:=hs.p1;dZ hs kK (by simp only [List.length_append,List.length_cons,List.length_nil]; omega) (by decide) (λ aw9 VF hs=>?_))));have hs:=(hs.p1.drop.p1).p1;have hh:(((([]:List aW)++[(⟨13,lp,(ek).n,[],[],0⟩:aW)])++(eQ q.p q.aK a (at_+1) (lp+1) (at_+2+bV a)))++[(⟨14,lp,0,[],[],(at_+1)⟩:aW)])=FL q.p q.aK ek a b at_ lp out:=by unfold FL; simp [*]
     rw [hh] at hs;exact hs
    ·refine aH (aC (λ Nw=>?_) (λ Nw=>?_))
     ·refine pop (Dt _ _) (have hs:=hs.gE (Φ:=(λ w=>cA.dr w (⟨11,0,0,⟨none,0,0⟩,⟨none,0,0⟩,out⟩:bU) (⟨11,0,0,[],[],out⟩:aW))) (λ w=>⟨_,_,rfl,DL.nil _,DL.nil _⟩);eJ (s:=(⟨11,0,0,⟨none,0,0⟩,⟨none,0,0⟩,out⟩:bU)) (x:=(⟨11,0,0,[],[],out⟩:aW)) hs kK (by decide) (λ axa R7 hs=>have hs:=hs.p1;dZ hs kK (by simp only [List.length_append,List.length_cons,List.length_nil]; omega) (by decide) (λ axb w26 hs=>?_)));have hs:=(hs.p1.drop.p1).p1;have hh:(([]:List aW)++[(⟨11,0,0,[],[],out⟩:aW)])=FL q.p q.aK ek a b at_ lp out:=by unfold FL; simp [*]
      rw [hh] at hs;exact hs
     ·refine aD BK hs.p2.At (aD fW hs.p1.At (ey amT (C159 q _ ek _ _ ⟨(⟨eL,eZ,eM,dV,dW,ep⟩:bN),oo,rfl,⟨eL,eZ,eM,dV,dW,ep,rfl,(jJ.ext hs.aF),(kP.ext hs.aF),(jK.ext hs.aF),(ie.ext hs.aF),(ig.ext hs.aF),(iT.ext hs.aF)⟩,(pK.ext hs.aF)⟩ ⟨xg,xh,rfl,(Iy.ext hs.aF),(Qr.ext hs.aF)⟩ hz BR hqx) ?_));rintro _ w27 ⟨ai9,rfl,bZ⟩;have hs:=hs.made bZ;refine eJ (s:=ai9) (x:=(lD q.p q.aK ek)) hs kK (by decide) (λ apz w28 hs=>have hs:=hs.p1;dZ hs kK (by simp only [List.length_append,List.length_cons,List.length_nil]; omega) (by decide) (λ apA w29 hs=>?_))
      have hs:=(hs.p1.drop.p1).p1;have hh:(([]:List aW)++[(lD q.p q.aK ek)])=FL q.p q.aK ek a b at_ lp out:=by unfold FL; simp [*]
      rw [hh] at hs;exact hs
  ·rintro JO w30 hs oN;have hs:=hs.drew;refine aD BK hs.p1.At (uL j1 (Ld.ext hs.aF) (by omega) (by omega) (λ axc acy=>?_));have acz:=DL.PO acy Ld VA;have Le:=Iw q.p q.aK ek a b r at_ lp out;have hmr:=gZ q.p q.aK r (at_+((FL q.p q.aK ek a b at_ lp out).length:Int)) lp out;obtain ⟨asS,acA,acB,_⟩:=(hs).dl;refine aJ kK acA ?_;rw [acB];refine aO (by omega) (dB JQ hs (C104 q _ _ r (at_+((FL q.p q.aK ek a b at_ lp out).length:Int)) (lp) (out) (N - 1) _ ⟨(⟨eL,eZ,eM,dV,dW,ep⟩:bN),oo,rfl,⟨eL,eZ,eM,dV,dW,ep,rfl,(jJ.ext hs.aF),(kP.ext hs.aF),(jK.ext hs.aF),(ie.ext hs.aF),(ig.ext hs.aF),(iT.ext hs.aF)⟩,(pK.ext hs.aF)⟩ (by have h:=acz.ext hs.aF; rw [Bk.ack gk (by omega)] at h; exact h) hz BR hgr (λ y hy=>hq y (by simp [Bk.flat,hy])) (by omega) (by omega) (by omega) (by omega)) (λ x153 w31 bZ hs=>have hs:=hs.p1;dZ hs kK (by omega) (by decide) (λ axd w32 hs=>?_)))
   have hs:=(hs.p1).drop;rw [uW];exact hs.fresh
termination_by N
decreasing_by all_goals omega
theorem NB (f:Nat→Int) (k:Nat):(List.range k).map f++[f k]=(List.range (k+1)).map f:=by rw [List.range_succ,List.map_append]; rfl
theorem NC (p:cX):(pe p).length=(gF p).length:=by unfold pe; rw [List.length_map]
theorem C44 (p:cX) (pv:bN) (t:dQ) (tv:eg) (b:Bk) (w:World) (hp:cA.dr w pv p) (ht:cA.dr w tv t) (hz:PZ p) (KQ:SzT t∧t.aK.length≤500) (hbf:t.body=b.flat) (gk:b.str) (hl:b.len≤40) (ND:oP t.body=some b):CR 44 [Flat.val pv,Flat.val tv] w (λ v w'=>∃ cv:cK,v=Flat.val cv∧lW (eX (λ w=>cA.dr w cv (l8 p t))) w w'):=by
 obtain ⟨bH,bQ,bI,aT,aU,aY,rfl,cI,cY,cJ,bR,bO,cB⟩:=hp;obtain ⟨uc,zU,rfl,zV,Eg⟩:=ht;have hs:=St.start w;refine agW _ _ _ _ ?_;unfold S44;refine dE hs (λ aii w1 hs=>dE hs (λ acC w2 hs=>aN hs HW (λ Cf w3 hs=>have hs:=hs.enc (cs':=Flat.enc (⟨0,0,⟨none,0,0⟩⟩:cK)) rfl;aD gI hs.p2.At (aA jn (aB pw hs.p1.hb rfl ?_)))));have apB:=DL.flat (zV);refine pop (M7 _ _ _ _ _ _ _ _ _ _ _ _ _ _ _ _ _ _ _ _ _) (aN hs abf (λ acv w4 hs=>have hs:=hs.enc (cs':=Flat.enc (⟨(⟨⟨none,0,0⟩,⟨none,0,0⟩,⟨none,0,0⟩,⟨none,0,0⟩,⟨none,0,0⟩,⟨none,0,0⟩⟩:bN),⟨none,0,0⟩⟩:vV)) rfl;aI (x:=(⟨(⟨bH,bQ,bI,aT,aU,aY⟩:bN),uc⟩:vV)) hs BK rfl rfl (λ w5 hs=>?_)))
 have lz:=iR b;refine aA jn (have hs:=hs.drew;aB pw hs.p2.hb rfl (aJ mS (apB.ext hs.aF) (aA qt (aB sN hs.p2.hb rfl (aD BK hs.At (aA qt (aB sN hs.p2.hb rfl (aZ Pc hs (C103 _ b (b.len+1) _ (by rw [← hbf]; exact (Eg.ext hs.aF)) gk (by omega) (by omega)) (λ w6 he hs=>?_)))))))));refine ⟨aG pw (hs.p2.hb.cell rfl),?_⟩;refine ⟨fP BK hs.At,?_⟩;refine ⟨aG sN (hs.p2.hb.cell rfl),?_⟩;refine dB JQ hs (C104 (⟨p,t.aK⟩:UF) _ _ b 0 0 0 (b.len+1) _ (show cA.dr _ (⟨(⟨bH,bQ,bI,aT,aU,aY⟩:bN),uc⟩:vV) (⟨p,(t).aK⟩:UF) from ⟨_,_,rfl,⟨bH,bQ,bI,aT,aU,aY,rfl,(cI.ext hs.aF),(cY.ext hs.aF),(cJ.ext hs.aF),(bR.ext hs.aF),(bO.ext hs.aF),(cB.ext hs.aF)⟩,DL.fp (apB.ext hs.aF)⟩) (by rw [← hbf]; exact (Eg.ext hs.aF)) hz (by have:=KQ.2; show t.aK.length≤500; omega) gk (λ y hy=>KQ.1.2.2 y (by rw [hbf]; exact hy)) (by omega) (by omega) (by omega) (by omega)) (λ x19 w7 bZ hs=>?_)
 refine ⟨aG pw (hs.p3.hb.cell rfl),?_⟩;obtain ⟨IA,rfl⟩:=(hs).lI;refine pop (Kg _ _ _ _ _) (aI (x:=(⟨(((t).aK).length:Int),(iS b),IA⟩:cK)) hs.p2 pS rfl rfl (λ w8 hs=>aD pS hs.At ?_));have hs:=hs.p1.jF.dN (Ψ:=(λ w=>cA.dr w (⟨(((t).aK).length:Int),(iS b),IA⟩:cK) (⟨(((t).aK).length:Int),(iS b),(eQ p t.aK b 0 0 0)⟩:fm))) (λ w h=>⟨_,rfl,h⟩);have hs:=((((hs.p1.drop.p1.drop).p1).drop).p1).drop;rw [Ep ND];exact ⟨_,rfl,hs.fresh⟩
set_option maxHeartbeats 4000000 in
theorem C12 (p:cX) (pv:bN) (w:World) (hp:cA.dr w pv p) (hz:PZ p):CR 12 [Flat.val pv] w (λ v w'=>∃ uv:dL,v = .tuple #[Flat.val uv,.int .i64 (gK p)]∧lW (eX (λ w=>cA.dr w uv (if gK p=0 then eB p else Eo))) w w'):=by
 obtain ⟨bH,bQ,bI,aT,aU,aY,rfl,cI,cY,cJ,bR,bO,cB⟩:=hp;have hs:=St.start w;refine agx _ _ _ ?_;unfold S12;refine dE hs (λ kD w1 hs=>aN hs vL (λ lY w2 hs=>have hs:=hs.enc (cs':=Flat.enc (⟨⟨none,0,0⟩,0,⟨none,0,0⟩,0,⟨none,0,0⟩,(⟨0,0,⟨none,0,0⟩⟩:cK),⟨none,0,0⟩⟩:dL)) rfl;aD gI hs.p1.At (ey auj (C40 p _ _ ⟨bH,bQ,bI,aT,aU,aY,rfl,(cI.ext hs.aF),(cY.ext hs.aF),(cJ.ext hs.aF),(bR.ext hs.aF),(bO.ext hs.aF),(cB.ext hs.aF)⟩ hz) ?_)))
 rintro _ w3 ⟨a_x14,rfl,he⟩;have hs:=hs.ext he;refine bE rfl (bE rfl (cS (aC (λ gd=>?_) (λ gd=>?_))))
 ·refine pop (v:=Flat.val (⟨⟨none,0,0⟩,0,⟨none,0,0⟩,0,⟨none,0,0⟩,(⟨0,0,⟨none,0,0⟩⟩:cK),⟨none,0,0⟩⟩:dL)) (by kernel_rfl) (aI (x:=(⟨⟨none,0,0⟩,0,⟨none,0,0⟩,0,⟨none,0,0⟩,(⟨0,0,⟨none,0,0⟩⟩:cK),⟨none,0,0⟩⟩:dL)) hs tD rfl rfl (λ w4 hs=>aD tD hs.At ?_));have hs:=hs.gE (Φ:=(λ w=>cA.dr w (⟨⟨none,0,0⟩,0,⟨none,0,0⟩,0,⟨none,0,0⟩,(⟨0,0,⟨none,0,0⟩⟩:cK),⟨none,0,0⟩⟩:dL) (⟨[],0,[],0,[],(⟨0,0,[]⟩:fm),[]⟩:im))) (λ w=>⟨_,_,_,_,_,rfl,DL.nil _,DL.nil _,DL.nil _,⟨_,rfl,DL.nil _⟩,DL.nil _⟩);have hs:=((hs.p1.drop).p1).drop;rw [if_neg (by simpa using gd)]
  exact ⟨_,rfl,hs.fresh⟩
 ·have zg:gK p=0:=by simpa using gd
  have R8:=En zg;have hacl:=m4 hz.toPS;have hffl:=NC p;refine ⟨λ jv w'=>∃ (yw:Nat) (sf:SV),jv = .pointer (some ⟨yw,0,none⟩)∧St w bD [cD yw (Flat.enc (⟨⟨none,0,0⟩,(et p),sf,((p.locks).length:Int),⟨none,0,0⟩,(⟨0,0,⟨none,0,0⟩⟩:cK),⟨none,0,0⟩⟩:dL)),bK (Flat.val sf) (pe p),cD kD (Flat.enc (⟨bH,bQ,bI,aT,aU,aY⟩:bN)),cD lY (Flat.enc (⟨⟨none,0,0⟩,0,⟨none,0,0⟩,0,⟨none,0,0⟩,(⟨0,0,⟨none,0,0⟩⟩:cK),⟨none,0,0⟩⟩:dL))] w',?_,?_⟩
  ·have hs:=hs.drew;refine aD gI hs.p1.At (aD gI hs.p1.At (aA rT (aB jt hs.p1.hb rfl ?_)));have axe:=DL.flat (cJ);refine aJ j0 (axe.ext hs.aF) ?_;refine ⟨?_,?_⟩
   ·refine aZ YK hs (C41 p _ _ ⟨bH,bQ,bI,aT,aU,aY,rfl,(cI.ext hs.aF),(cY.ext hs.aF),(cJ.ext hs.aF),(bR.ext hs.aF),(bO.ext hs.aF),(cB.ext hs.aF)⟩ hz) (λ w5 he hs=>?_);refine ⟨fP gI hs.p1.At,?_⟩;refine ⟨aG jt (hs.p1.hb.cell rfl),?_⟩;refine ⟨?_,?_⟩
    ·refine dB ahq hs (C42 p _ _ ⟨bH,bQ,bI,aT,aU,aY,rfl,(cI.ext hs.aF),(cY.ext hs.aF),(cJ.ext hs.aF),(bR.ext hs.aF),(bO.ext hs.aF),(cB.ext hs.aF)⟩ hz) (λ x24 w6 bZ hs=>?_);refine ⟨aG jt (hs.p2.hb.cell rfl),?_⟩;obtain ⟨ajb,rfl⟩:=(hs).fQ;refine pop (vQ _ _ _ _ _) (aN hs vL (λ axf w7 hs=>?_));have hs:=hs.enc (cs':=Flat.enc (⟨⟨none,0,0⟩,0,⟨none,0,0⟩,0,⟨none,0,0⟩,(⟨0,0,⟨none,0,0⟩⟩:cK),⟨none,0,0⟩⟩:dL)) rfl;refine ⟨fP gI hs.p3.At,?_⟩;refine ⟨fP gI hs.p3.At,?_⟩;refine ⟨aG jt (hs.p3.hb.cell rfl),?_⟩
     refine aI (x:=(⟨⟨none,0,0⟩,(et p),ajb,(((p).locks).length:Int),⟨none,0,0⟩,(⟨0,0,⟨none,0,0⟩⟩:cK),⟨none,0,0⟩⟩:dL)) hs tD rfl rfl (λ w8 hs=>?_);have hs:=hs.p2.p3.p3.p3;exact ⟨_,_,rfl,hs⟩
    ·refine ⟨?_,?_⟩
     ·refine aN hs vL (λ axg w9 hs=>?_);have hs:=hs.enc (cs':=Flat.enc (⟨⟨none,0,0⟩,0,⟨none,0,0⟩,0,⟨none,0,0⟩,(⟨0,0,⟨none,0,0⟩⟩:cK),⟨none,0,0⟩⟩:dL)) rfl;refine ⟨fP gI hs.p2.At,?_⟩;refine ⟨fP gI hs.p2.At,?_⟩;refine ⟨aG jt (hs.p2.hb.cell rfl),?_⟩;refine dB ahq hs (C42 p _ _ ⟨bH,bQ,bI,aT,aU,aY,rfl,(cI.ext hs.aF),(cY.ext hs.aF),(cJ.ext hs.aF),(bR.ext hs.aF),(bO.ext hs.aF),(cB.ext hs.aF)⟩ hz) (λ x24_1 pQ bZ hs=>?_);refine ⟨aG jt (hs.p3.hb.cell rfl),?_⟩;obtain ⟨VG,rfl⟩:=(hs).fQ;refine pop (vQ _ _ _ _ _) (aI (x:=(⟨⟨none,0,0⟩,(et p),VG,(((p).locks).length:Int),⟨none,0,0⟩,(⟨0,0,⟨none,0,0⟩⟩:cK),⟨none,0,0⟩⟩:dL)) hs.p1 tD rfl rfl (λ sP hs=>?_))
      have hs:=hs.p2.p3.p3.p3;exact ⟨_,_,rfl,hs⟩
     ·trivial
   ·refine ⟨?_,?_⟩
    ·refine aN hs vL (λ axh vi hs=>?_);have hs:=hs.enc (cs':=Flat.enc (⟨⟨none,0,0⟩,0,⟨none,0,0⟩,0,⟨none,0,0⟩,(⟨0,0,⟨none,0,0⟩⟩:cK),⟨none,0,0⟩⟩:dL)) rfl;refine ⟨fP gI hs.p2.At,?_⟩;refine ⟨fP gI hs.p2.At,?_⟩;refine ⟨aG jt (hs.p2.hb.cell rfl),?_⟩;refine aZ YK hs (C41 p _ _ ⟨bH,bQ,bI,aT,aU,aY,rfl,(cI.ext hs.aF),(cY.ext hs.aF),(cJ.ext hs.aF),(bR.ext hs.aF),(bO.ext hs.aF),(cB.ext hs.aF)⟩ hz) (λ vj he hs=>?_);refine ⟨fP gI hs.p2.At,?_⟩;refine ⟨aG jt (hs.p2.hb.cell rfl),?_⟩;refine dB ahq hs (C42 p _ _ ⟨bH,bQ,bI,aT,aU,aY,rfl,(cI.ext hs.aF),(cY.ext hs.aF),(cJ.ext hs.aF),(bR.ext hs.aF),(bO.ext hs.aF),(cB.ext hs.aF)⟩ hz) (λ x24_2 sd bZ hs=>?_)
     refine ⟨aG jt (hs.p3.hb.cell rfl),?_⟩;obtain ⟨VH,rfl⟩:=(hs).fQ;refine pop (vQ _ _ _ _ _) (aI (x:=(⟨⟨none,0,0⟩,(et p),VH,(((p).locks).length:Int),⟨none,0,0⟩,(⟨0,0,⟨none,0,0⟩⟩:cK),⟨none,0,0⟩⟩:dL)) hs.p1 tD rfl rfl (λ vW hs=>?_));have hs:=hs.p2.p3.p3.p3;exact ⟨_,_,rfl,hs⟩
    ·trivial
  ·rintro _ yM ⟨yw,sf,rfl,hs⟩ fy;have hs:=(((((hs.fX (α:=Int)).p4).p4).p4).p3).p4;refine ⟨λ m x w1=>∃ (k:Nat) (sl:SV),x = .int .i64 (k:Int)∧m=(gF p).length - k∧k≤(gF p).length∧St w bD [cD yw (Flat.enc (⟨sl,(et p),sf,((p.locks).length:Int),⟨none,0,0⟩,(⟨0,0,⟨none,0,0⟩⟩:cK),⟨none,0,0⟩⟩:dL)),bK (Flat.val sl) ((List.range k).map (fun (i:Nat)=>l5 p i)),bK (Flat.val sf) (pe p),cD kD (Flat.enc (⟨bH,bQ,bI,aT,aU,aY⟩:bN)),cD lY (Flat.enc (⟨⟨none,0,0⟩,0,⟨none,0,0⟩,0,⟨none,0,0⟩,(⟨0,0,⟨none,0,0⟩⟩:cK),⟨none,0,0⟩⟩:dL))] w1,⟨_,0,⟨none,0,0⟩,rfl,rfl,by omega,hs⟩,?_⟩
   rintro m _ Cd ⟨k,sl,rfl,rfl,hk,hs⟩ jw;refine aA wT (aB (v:=Flat.val (sf:SV)) en hs.hb rfl (aJ ee (hs.p2).fK (aR (aC (λ nz=>?_) (λ nz=>?_)))))
   ·refine aA ml (have hs:=hs.drew;aB (v:=Flat.val (sl:SV)) en hs.hb rfl (aD gI hs.p3.At (aZ amr hs (C43 p _ _ _ ⟨bH,bQ,bI,aT,aU,aY,rfl,(cI.ext hs.aF),(cY.ext hs.aF),(cJ.ext hs.aF),(bR.ext hs.aF),(bO.ext hs.aF),(cB.ext hs.aF)⟩ hz) (λ Il he hs=>?_))));refine ⟨aG en (hs.hb.cell rfl),?_⟩;refine bW (([(l5 p (k:Int))]:List Int)) hs ee rfl rfl (eF rfl) (λ VD Jo hs=>?_);refine ⟨aG en (hs.p1.hb.cell rfl),?_⟩;have ajc:=(hs).fK;refine cN hs.p2 ee ajc (by rw [List.length_map,List.length_range,List.length_singleton]; omega) (by decide) (λ s_x42 KA hs=>have hs:=hs.p1.drop;aA ml ?_)
    obtain ⟨VI,rfl⟩:=(hs).fQ;refine aV hs.p1 en (eF rfl) (rfl) (λ Mx hs=>have hs:=hs.enc (cs':=Flat.enc (⟨VI,(et p),sf,((p.locks).length:Int),⟨none,0,0⟩,(⟨0,0,⟨none,0,0⟩⟩:cK),⟨none,0,0⟩⟩:dL)) rfl;aO (by omega) ?_);have hs:=hs.p4.p4.p4.p4.p4;exact ⟨_,by omega,k+1,VI,rfl,rfl,by omega,by rw [← NB]; exact hs⟩
   ·have US:k=(gF p).length:=by omega
    subst US;have hs:=((((((hs.xC (α:=fm)).p5).p5).p5).p5).p4).p5;refine ⟨λ m x w1=>∃ (kt:Nat) (st:SV),x = .int .i64 (kt:Int)∧m=p.threads.length - kt∧kt≤p.threads.length∧St w bD [cD yw (Flat.enc (⟨sl,(et p),sf,((p.locks).length:Int),st,(⟨0,0,⟨none,0,0⟩⟩:cK),⟨none,0,0⟩⟩:dL)),fj (Flat.val st) ((p.threads.take kt).map (l8 p)),bK (Flat.val sl) ((List.range (gF p).length).map (fun (i:Nat)=>l5 p i)),bK (Flat.val sf) (pe p),cD kD (Flat.enc (⟨bH,bQ,bI,aT,aU,aY⟩:bN)),cD lY (Flat.enc (⟨⟨none,0,0⟩,0,⟨none,0,0⟩,0,⟨none,0,0⟩,(⟨0,0,⟨none,0,0⟩⟩:cK),⟨none,0,0⟩⟩:dL))] w1,⟨_,0,⟨none,0,0⟩,rfl,rfl,by omega,hs⟩,?_⟩
    rintro m _ Qp ⟨kt,st,rfl,rfl,hkt,hs⟩ oN;have hzth:=hz.threads;refine aA nc (aB ja hs.p4.hb rfl ?_);obtain ⟨axi,apC,apD⟩:=(bR).open;have hn56:=apD.1;refine aJ iJ (apC.ext hs.aF) (aR (aC (λ zK=>?_) (λ zK=>?_)))
    ·refine aA rV (have hs:=hs.drew;aB (v:=Flat.val (st:SV)) Fz hs.hb rfl (aD gI hs.p4.At (aA nc (aB ja hs.p4.hb rfl ?_))));obtain ⟨Lf,oU⟩:=gx axi (i:=((kt:Int)).toNat) (by omega);obtain ⟨pL,rk⟩:=gx ((p).threads) (i:=((kt:Int)).toNat) (by omega);obtain ⟨NF,NG,rfl,NH,NI⟩:=apD.2 _ _ _ oU rk;refine aQ iJ apC (by omega) oU (λ _ ub=>aD H6 (ub.ext hs.aF) ?_);obtain ⟨tb,hbf,hbs,hbo,yN,hbq,hbx,hbw,ND,hs0,R9⟩:=R8.tree (t:=pL) (List.mem_append_left _ (List.mem_of_getElem? rk));have KQ:=hz.nf (t:=pL) (List.mem_append_left _ (List.mem_of_getElem? rk))
     refine ey ams (C44 p _ pL _ tb _ ⟨bH,bQ,bI,aT,aU,aY,rfl,(cI.ext hs.aF),(cY.ext hs.aF),(cJ.ext hs.aF),(bR.ext hs.aF),(bO.ext hs.aF),(cB.ext hs.aF)⟩ ⟨NF,NG,rfl,(NH.ext hs.aF),(NI.ext hs.aF)⟩ hz ⟨KQ.1,KQ.2.1⟩ hbf hbs yN ND) ?_;rintro _ Tn ⟨ajd,rfl,bZ⟩;have hs:=hs.made bZ;refine ⟨aG Fz (hs.p1.hb.cell rfl),?_⟩;refine eJ (s:=ajd) (x:=(l8 p pL)) hs AY (by decide) (λ aou VF hs=>?_);refine ⟨aG Fz (hs.p1.hb.cell rfl),?_⟩;have hs:=hs.p2;refine dZ hs AY (by simp; omega) (by decide) (λ s_x61 R7 hs=>aA rV ?_)
     obtain ⟨IB,rfl⟩:=(hs).lI;refine aV hs.p1 Fz (eF rfl) (rfl) (λ w26 hs=>have hs:=hs.enc (cs':=Flat.enc (⟨sl,(et p),sf,((p.locks).length:Int),IB,(⟨0,0,⟨none,0,0⟩⟩:cK),⟨none,0,0⟩⟩:dL)) rfl;aO (by omega) ?_);have hs:=hs.p5.p5.p5.p5.p5.p5;exact ⟨_,by omega,kt+1,IB,rfl,rfl,by omega,by rw [← iP (k:=kt) rk]; exact hs⟩
    ·have US:kt=p.threads.length:=by omega
     subst US;rw [List.take_length] at hs;refine ⟨λ w'=>∃ rc:cK,St w bD [cD yw (Flat.enc (⟨sl,(et p),sf,((p.locks).length:Int),st,rc,⟨none,0,0⟩⟩:dL)),eX (λ w=>cA.dr w rc (Lc p)),fj (Flat.val st) (p.threads.map (l8 p)),bK (Flat.val sl) ((List.range (gF p).length).map (fun (i:Nat)=>l5 p i)),bK (Flat.val sf) (pe p),cD kD (Flat.enc (⟨bH,bQ,bI,aT,aU,aY⟩:bN)),cD lY (Flat.enc (⟨⟨none,0,0⟩,0,⟨none,0,0⟩,0,⟨none,0,0⟩,(⟨0,0,⟨none,0,0⟩⟩:cK),⟨none,0,0⟩⟩:dL))] w',?_,?_⟩
     ·refine aA rU (aB ja hs.p4.hb rfl ?_);obtain ⟨axk,apE,apF⟩:=(bO).open;have hn57:=apF.1;refine aJ iJ (apE.ext hs.aF) (cZ (aC (λ KI=>?_) (λ KI=>?_)))
      ·have hs:=hs.drew;refine aD gI hs.p4.At (aA rU (aB ja hs.p4.hb rfl ?_));obtain ⟨e_x70,VJ⟩:=gx axk (i:=((0:Int)).toNat) (by omega);obtain ⟨Lg,Bi⟩:=gx ((p).recover) (i:=((0:Int)).toNat) (by omega);obtain ⟨NJ,NK,rfl,NL,NM⟩:=apF.2 _ _ _ VJ Bi;refine aQ iJ apE (by omega) VJ (λ _ Lh=>aD H6 (Lh.ext hs.aF) ?_);obtain ⟨tb,hbf,hbs,hbo,yN,hbq,hbx,hbw,ND,hs0,R9⟩:=R8.tree (t:=Lg) (List.mem_append_right _ (List.mem_of_getElem? Bi));have KQ:=hz.nf (t:=Lg) (List.mem_append_right _ (List.mem_of_getElem? Bi));refine ey ams (C44 p _ Lg _ tb _ ⟨bH,bQ,bI,aT,aU,aY,rfl,(cI.ext hs.aF),(cY.ext hs.aF),(cJ.ext hs.aF),(bR.ext hs.aF),(bO.ext hs.aF),(cB.ext hs.aF)⟩ ⟨NJ,NK,rfl,(NL.ext hs.aF),(NM.ext hs.aF)⟩ hz ⟨KQ.1,KQ.2.1⟩ hbf hbs yN ND) ?_
       rintro _ w27 ⟨VK,rfl,bZ⟩;have hs:=hs.made bZ;refine aA zn (pn (vs:=Flat.enc VK) hs.p1 pS rfl (eF rfl) (Flat.one _) (λ w28 hs=>?_));have hs:=hs.enc (cs':=Flat.enc (⟨sl,(et p),sf,((p.locks).length:Int),st,VK,⟨none,0,0⟩⟩:dL)) rfl;have hs:=hs.p6.p6.p6.p6.p6.p6.p6;have hrm:Lc p=l8 p Lg:=by unfold Lc; rw [show p.recover[0]? = some Lg from Bi]
       exact ⟨_,by rw [hrm]; exact hs⟩
      ·have hs:=hs.gE (Φ:=λ w=>cA.dr w (⟨0,0,⟨none,0,0⟩⟩:cK) (Lc p)) (λ w=>by rw [show Lc p=Lb from by unfold Lc; rw [List.getElem?_eq_none (by omega)]]; exact ⟨_,rfl,DL.nil _⟩);have hs:=hs.p6.p6.p6.p6.p6.p5.p6;exact ⟨_,hs⟩
     ·rintro w29 ⟨rc,hs⟩ GF;have hs:=((((((((hs.xC (α:=(List nk))).p7).p7).p7).p7).p7).p7).p6).p7;refine ⟨λ m x w1=>∃ (kc:Nat) (sc:SV),x = .int .i64 (kc:Int)∧m=p.cC.length - kc∧kc≤p.cC.length∧St w bD [cD yw (Flat.enc (⟨sl,(et p),sf,((p.locks).length:Int),st,rc,sc⟩:dL)),fj (Flat.val sc) ((p.cC.take kc).map (λ c=>gg (oR p) c.e)),eX (λ w=>cA.dr w rc (Lc p)),fj (Flat.val st) (p.threads.map (l8 p)),bK (Flat.val sl) ((List.range (gF p).length).map (fun (i:Nat)=>l5 p i)),bK (Flat.val sf) (pe p),cD kD (Flat.enc (⟨bH,bQ,bI,aT,aU,aY⟩:bN)),cD lY (Flat.enc (⟨⟨none,0,0⟩,0,⟨none,0,0⟩,0,⟨none,0,0⟩,(⟨0,0,⟨none,0,0⟩⟩:cK),⟨none,0,0⟩⟩:dL))] w1,⟨_,0,⟨none,0,0⟩,rfl,rfl,by omega,hs⟩,?_⟩
      rintro m _ w30 ⟨kc,sc,rfl,rfl,hkc,hs⟩ R0;have hzcl:=hz.cC;refine aA kJ (aB sM hs.p6.hb rfl ?_);obtain ⟨axl,apG,apH⟩:=(cB).open;have hn58:=apH.1;refine aJ yk (apG.ext hs.aF) (aR (aC (λ VL=>?_) (λ VL=>?_)))
      ·refine aA kJ (have hs:=hs.drew;aB sM hs.p6.hb rfl ?_);obtain ⟨e_x85,VM⟩:=gx axl (i:=((kc:Int)).toNat) (by omega);obtain ⟨afh,IC⟩:=gx ((p).cC) (i:=((kc:Int)).toNat) (by omega);obtain ⟨acD,rfl,acE⟩:=apH.2 _ _ _ VM IC;refine aQ yk apG (by omega) VM (λ _ apI=>bP acD Cy apI rfl rfl (λ _ afi=>aD mR (afi.ext hs.aF) ?_));have axm:=DL.flat (acE);refine aD gI hs.p6.At (aA o9 (aB (v:=.int .i64 (et p)) bL hs.hb rfl (dB TP hs (C46 p _ _ ⟨bH,bQ,bI,aT,aU,aY,rfl,(cI.ext hs.aF),(cY.ext hs.aF),(cJ.ext hs.aF),(bR.ext hs.aF),(bO.ext hs.aF),(cB.ext hs.aF)⟩ hz) (λ x89 w31 bZ hs=>?_))))
       refine ⟨aG sM (hs.p7.hb.cell rfl),?_⟩;refine ⟨fP mR (afi.ext hs.aF),?_⟩;refine ⟨aG bL (hs.p1.hb.cell rfl),?_⟩;have Ql:=l6 hz.toPS;have hsl:0≤et p∧et p≤(fb p).length:=by unfold et fb gF; rw [List.length_map,List.length_append]; omega
       refine kL mS (hs).fK (by omega) (by omega) (λ s_x92 aje=>ey YL (C45 _ _ _ _ _ (axm.ext hs.aF) (aje _ (hs).fK) (hz.zc _ (List.mem_of_getElem? IC)).1 (by rw [List.length_take]; omega) (hz.zc _ (List.mem_of_getElem? IC)).2) ?_);rintro _ w32 ⟨s_x93,rfl,bZ⟩;have hs:=hs.made bZ;refine bE rfl (bE rfl (aA wU (aB (v:=Flat.val (sc:SV)) RN hs.p2.hb rfl ?_)));obtain ⟨VN,rfl⟩:=(hs).fQ;have hs:=hs.freeze.dN (Ψ:=λ w=>cA.dr w VN ((gg ((((fb p)).take ((et p)).toNat)) ((afh).e)))) (λ w h=>DL.fp h);refine eJ (s:=VN) (x:=(gg ((((fb p)).take ((et p)).toNat)) ((afh).e))) hs FA (by decide) (λ s_x99 w33 hs=>have hs:=hs.p3;dZ hs FA (by simp; omega) (by decide) (λ axn w34 hs=>aA wU ?_))
       obtain ⟨Qs,rfl⟩:=(hs).lI;refine aV hs.p2 RN (eF rfl) (rfl) (λ w35 hs=>have hs:=hs.enc (cs':=Flat.enc (⟨sl,(et p),sf,((p.locks).length:Int),st,rc,Qs⟩:dL)) rfl;aO (by omega) ?_);have hs:=(hs.p2.drop.p7.p7.p7.p7.p7.p7.p7).p7;exact ⟨_,by omega,kc+1,Qs,rfl,rfl,by omega,by rw [← iP (k:=kc) IC]; exact hs⟩
      ·have US:kc=p.cC.length:=by omega
       subst US;rw [List.take_length] at hs;refine aD tD hs.At (aI (x:=(⟨sl,(et p),sf,((p.locks).length:Int),st,rc,sc⟩:dL)) hs.p7 tD rfl rfl (λ w36 hs=>aD tD hs.At ?_));have hs:=hs.p5.freeze.p6.freeze.p1.fL.p5.jF.p1.fL.p4.p1.fL.p3.jF.p1.fL.dN (Ψ:=(λ w=>cA.dr w (⟨sl,(et p),sf,((p.locks).length:Int),st,rc,sc⟩:dL) (⟨((List.range (gF p).length).map (fun (i:Nat)=>l5 p i)),(et p),(pe p),((p.locks).length:Int),(p.threads.map (l8 p)),(Lc p),(p.cC.map (λ c=>gg (oR p) c.e))⟩:im))) (λ w h=>⟨_,_,_,_,_,rfl,DL.fp h.1.1.1.1,DL.fp h.1.1.1.2,h.1.1.2,h.1.2,h.2⟩)
       have hs:=(((hs.p1.drop.p1).drop).p1).drop;rw [if_pos zg];exact ⟨_,by rw [zg],hs.fresh⟩
def nD (s:ByteArray):ByteArray:=s.extract 0 (min (s.size:Int) 40).toNat
theorem oV (s:ByteArray):(nD s).size≤40:=by
 unfold nD
 rw [ByteArray.size_extract]; omega
def acF (x:cW):cW:={x with name:=nD x.name}
def xG (l:List cW):List cW:=(l.take 60).map acF
def Qt (x:cE):cE:=⟨x.kind,nD x.gJ,nD x.name,xG x.e,xG x.f,x.n,x.body,x.fD,x.at_⟩
def Er (l:List cE):List cE:=(l.take 50).map Qt
def acG (c:dF):dF:={c with name:=nD c.name}
def iW (l:List dF):List dF:=(l.take 8).map acG
def xX (t:dQ):dQ:=⟨nD t.name,(t.aK.take 6).map nD,Er t.body,t.at_⟩
def ku (l:List dQ):List dQ:=(l.take 4).map xX
def Es (c:ju):ju:=⟨xG c.e,c.at_⟩
def qJ (p:cX):cX:=⟨(p.lines.take 6).map iW,iW p.jP,iW p.locks,ku p.threads,ku p.recover,(p.cC.take 6).map Es⟩
theorem rn {α:Type} {xs:List α} {k m:Nat} (h:k≤m) (h2:k≤xs.length) (h3:¬ (k<xs.length∧k<m)):xs.take k=xs.take m:=by
 rcases Nat.lt_or_ge k m with h4 | h4
 ·rw [List.take_of_length_le (by omega),List.take_of_length_le (by omega)]
 ·rw [show k=m from by omega]
theorem Eu (l:List cW):(xG l).length≤60:=by unfold xG; rw [List.length_map,List.length_take]; omega
theorem ID (l:List cW):∀ y∈xG l,y.name.size≤1048576:=by
 intro y hy
 obtain ⟨x,_,rfl⟩:=List.mem_map.1 hy
 have:=oV x.name
 show (nD x.name).size≤_
 omega
theorem Ev (l:List dF):∀ y∈iW l,y.name.size≤1048576:=by
 intro y hy
 obtain ⟨x,_,rfl⟩:=List.mem_map.1 hy
 have:=oV x.name
 show (nD x.name).size≤_
 omega
theorem Bj (l:List dF):(iW l).length≤8:=by unfold iW; rw [List.length_map,List.length_take]; omega
theorem VO (l:List cE):(Er l).length≤50:=by unfold Er; rw [List.length_map,List.length_take]; omega
theorem Ew (l:List dQ):(ku l).length≤4:=by unfold ku; rw [List.length_map,List.length_take]; omega
theorem acH (l:List cE):∀ y∈Er l,SzS y:=by
 intro y hy
 obtain ⟨x,_,rfl⟩:=List.mem_map.1 hy
 have h1:=oV x.gJ
 have h2:=oV x.name
 have h3:=Eu x.e
 have h4:=Eu x.f
 exact ⟨by show (nD x.gJ).size≤_; omega,by show (nD x.name).size≤_; omega,by show (xG x.e).length≤_; omega,by show (xG x.f).length≤_; omega,ID _,ID _⟩
theorem NN (t:dQ):(xX t).aK.length≤6:=by show ((t.aK.take 6).map nD).length≤6; rw [List.length_map,List.length_take]; omega
theorem GN (l:List dQ):∀ y∈ku l,SzT y∧y.aK.length≤500∧y.body.length≤500:=by
 intro y hy
 obtain ⟨x,_,rfl⟩:=List.mem_map.1 hy
 have h1:=oV x.name
 have h2:=NN x
 have h3:=VO x.body
 refine ⟨⟨by show (nD x.name).size≤_; omega,λ s hs=>?_,acH _⟩,by omega,by show (Er x.body).length≤_; omega⟩
 obtain ⟨z,_,rfl⟩:=List.mem_map.1 (show s∈(x.aK.take 6).map nD from hs)
 have:=oV z
 omega
theorem Qu (p:cX):PZ (qJ p):=by
 have hl:(qJ p).lines.length≤6:=by show ((p.lines.take 6).map iW).length≤6; rw [List.length_map,List.length_take]; omega
 have hc:(qJ p).cC.length≤6:=by show ((p.cC.take 6).map Es).length≤6; rw [List.length_map,List.length_take]; omega
 have h1:=Bj p.jP
 have h2:=Bj p.locks
 have h3:=Ew p.threads
 have h4:=Ew p.recover
 have hth:∀ t∈(qJ p).threads++(qJ p).recover,SzT t∧t.aK.length≤500∧t.body.length≤500:=by
  intro t ht
  rcases List.mem_append.1 ht with h | h
  ·exact GN _ t h
  ·exact GN _ t h
 refine {lines:=by omega,line:=λ l h=>?_,jP:=by show (iW p.jP).length≤500; omega,locks:=by show (iW p.locks).length≤500; omega,threads:=by show (ku p.threads).length≤500; omega,recover:=by show (ku p.recover).length≤500; omega,cC:=by omega,aK:=λ t ht=>(hth t ht).2.1,body:=λ t ht=>(hth t ht).2.2,zl:=λ l h c hc=>?_,zv:=Ev _,zk:=Ev _,zt:=λ t ht=>(hth t (List.mem_append_left _ ht)).1,zr:=λ t ht=>(hth t (List.mem_append_right _ ht)).1,zc:=λ c h=>?_}
 ·obtain ⟨x,_,rfl⟩:=List.mem_map.1 (show l∈(p.lines.take 6).map iW from h)
  have:=Bj x; omega
 ·obtain ⟨x,_,rfl⟩:=List.mem_map.1 (show l∈(p.lines.take 6).map iW from h)
  exact Ev x c hc
 ·obtain ⟨x,_,rfl⟩:=List.mem_map.1 (show c∈(p.cC.take 6).map Es from h)
  have:=Eu x.e
  exact ⟨by show (xG x.e).length≤_; omega,ID _⟩
theorem C39 (lv:Value) (xs:List cW) (w:World) (hL:eI (λ _=>True) w lv xs):CR 39 [lv] w (λ v w'=>lW (bK v (xG xs)) w w'):=by
 have hs:=St.start w;refine agQ _ _ _ ?_;unfold S39;refine bW (([]:List cW)) hs lP rfl rfl (eF rfl) (λ acj w1 hs=>?_);refine ⟨λ m fV x w1=>∃ k:Nat,x = .int .i64 (k:Int)∧m=60 - k∧k≤60∧k≤xs.length∧St w bD [bK fV ((xs.take k).map acF)] w1,⟨_,0,rfl,rfl,by omega,by omega,hs⟩,?_⟩;rintro m fV _ w2 ⟨k,rfl,rfl,hk,Jn,hs⟩ fy;have IE:((xs.take k).map acF).length=k:=by rw [List.length_map,List.length_take]; omega
 refine ⟨λ jv w'=>jv = .bool (decide (k<xs.length∧k<60))∧St w bD [bK fV ((xs.take k).map acF)] w',?_,?_⟩
 ·refine aJ lP (hL.ext hs.aF) (aR (aC (λ fO=>?_) (λ fO=>?_)))
  ·refine aR ?_;exact ⟨vb (by grind),hs⟩
  ·exact ⟨vb (by grind),hs⟩
 ·rintro _ w3 ⟨rfl,hs⟩ jw;refine aX (λ gP=>?_) (λ gP=>?_)
  ·have apJ:k<xs.length∧k<60:=by simpa using gP
   obtain ⟨iX,fF⟩:=gx (xs) (i:=((k:Int)).toNat) (by omega);refine aQ lP hL (by omega) fF (λ _ jI=>aD J9 (jI.ext hs.aF) (aN hs PD (λ ua w4 hs=>aI (x:=iX) hs J9 rfl rfl (λ w5 hs=>aA kY (aB (v:=.string ((iX).name)) j5 hs.hb rfl (aA kY (aB (v:=.string ((iX).name)) j5 hs.hb rfl (gb gH (r9 (oM gH (by omega) (by omega) (aA kY (aV hs j5 (eF rfl) (rfl) (λ w6 hs=>?_)))))))))))));have hs:=hs.enc (cs':=Flat.enc ({iX with name:=(((iX).name).extract 0 ((min (((iX).name).size:Int) 40)).toNat)}:cW)) rfl;refine aD J9 hs.At (bW ([({iX with name:=(((iX).name).extract 0 ((min (((iX).name).size:Int) 40)).toNat)}:cW)]) hs lP rfl rfl (eF rfl) (λ Vu w7 hs=>?_))
   have NO:=(hs).fK;refine cN hs.p2 lP NO (by rw [IE,List.length_singleton]; omega) (by decide) (λ VP w8 hs=>have hs:=hs.p1.drop;aO (by omega) ?_);have hs:=(hs.p1).drop;exact ⟨_,by omega,k+1,rfl,rfl,by omega,by omega,by rw [← iP (k:=k) fF]; exact hs⟩
  ·rw [rn (xs:=xs) (k:=k) (m:=60) (by omega) (by omega) (of_decide_eq_false gP)] at hs;exact hs.fresh
theorem C37 (lv:Value) (xs:List dF) (w:World) (hL:eI (λ _=>True) w lv xs):CR 37 [lv] w (λ v w'=>lW (bK v (iW xs)) w w'):=by
 have hs:=St.start w;refine agN _ _ _ ?_;unfold S37;refine bW (([]:List dF)) hs j0 rfl rfl (eF rfl) (λ acj w1 hs=>?_);refine ⟨λ m fV x w1=>∃ k:Nat,x = .int .i64 (k:Int)∧m=8 - k∧k≤8∧k≤xs.length∧St w bD [bK fV ((xs.take k).map acG)] w1,⟨_,0,rfl,rfl,by omega,by omega,hs⟩,?_⟩;rintro m fV _ w2 ⟨k,rfl,rfl,hk,Jn,hs⟩ fy;have IE:((xs.take k).map acG).length=k:=by rw [List.length_map,List.length_take]; omega
 refine ⟨λ jv w'=>jv = .bool (decide (k<xs.length∧k<8))∧St w bD [bK fV ((xs.take k).map acG)] w',?_,?_⟩
 ·refine aJ j0 (hL.ext hs.aF) (aR (aC (λ fO=>?_) (λ fO=>?_)))
  ·refine aR ?_;exact ⟨vb (by grind),hs⟩
  ·exact ⟨vb (by grind),hs⟩
 ·rintro _ w3 ⟨rfl,hs⟩ jw;refine aX (λ gP=>?_) (λ gP=>?_)
  ·have apJ:k<xs.length∧k<8:=by simpa using gP
   obtain ⟨iX,fF⟩:=gx (xs) (i:=((k:Int)).toNat) (by omega);refine aQ j0 hL (by omega) fF (λ _ jI=>aD xQ (jI.ext hs.aF) (aN hs Cz (λ ajh w4 hs=>aI (x:=iX) hs xQ rfl rfl (λ w5 hs=>aA pz (aB (v:=.string ((iX).name)) j5 hs.hb rfl (aA pz (aB (v:=.string ((iX).name)) j5 hs.hb rfl (gb gH (r9 (oM gH (by omega) (by omega) (aA pz (aV hs j5 (eF rfl) (rfl) (λ w6 hs=>?_)))))))))))));have hs:=hs.enc (cs':=Flat.enc ({iX with name:=(((iX).name).extract 0 ((min (((iX).name).size:Int) 40)).toNat)}:dF)) rfl;refine aD xQ hs.At (bW ([({iX with name:=(((iX).name).extract 0 ((min (((iX).name).size:Int) 40)).toNat)}:dF)]) hs j0 rfl rfl (eF rfl) (λ Vu w7 hs=>?_))
   have NO:=(hs).fK;refine cN hs.p2 j0 NO (by rw [IE,List.length_singleton]; omega) (by decide) (λ VP w8 hs=>have hs:=hs.p1.drop;aO (by omega) ?_);have hs:=(hs.p1).drop;exact ⟨_,by omega,k+1,rfl,rfl,by omega,by omega,by rw [← iP (k:=k) fF]; exact hs⟩
  ·rw [rn (xs:=xs) (k:=k) (m:=8) (by omega) (by omega) (of_decide_eq_false gP)] at hs;exact hs.fresh
theorem C92 (lv:Value) (xs:List cE) (w:World) (hL:DL w lv xs):CR 92 [lv] w (λ v w'=>lW (fj v (Er xs)) w w'):=by
 have hs:=St.start w;refine ahw _ _ _ ?_;unfold S92;refine vS (α:=cE) hs j1 (λ acj w1 hs=>?_);refine ⟨λ m fV x w1=>∃ k:Nat,x = .int .i64 (k:Int)∧m=50 - k∧k≤50∧k≤xs.length∧St w bD [fj fV ((xs.take k).map Qt)] w1,⟨_,0,rfl,rfl,by omega,by omega,hs⟩,?_⟩;rintro m fV _ w2 ⟨k,rfl,rfl,hk,Jn,hs⟩ fy;have IE:((xs.take k).map Qt).length=k:=by rw [List.length_map,List.length_take]; omega
 refine ⟨λ jv w'=>jv = .bool (decide (k<xs.length∧k<50))∧St w bD [fj fV ((xs.take k).map Qt)] w',?_,?_⟩
 ·obtain ⟨ts60,axo,axp⟩:=(hL).open;have hn60:=axp.1;refine aJ j1 (axo.ext hs.aF) (aR (aC (λ fO=>?_) (λ fO=>?_)))
  ·refine aR ?_;exact ⟨vb (by grind),hs⟩
  ·exact ⟨vb (by grind),hs⟩
 ·rintro _ w3 ⟨rfl,hs⟩ jw;refine aX (λ gP=>?_) (λ gP=>?_)
  ·have apJ:k<xs.length∧k<50:=by simpa using gP
   obtain ⟨axq,axr,apK⟩:=(hL).open;have hn61:=apK.1;obtain ⟨iX,fF⟩:=gx axq (i:=((k:Int)).toNat) (by omega);obtain ⟨dI,oc⟩:=gx (xs) (i:=((k:Int)).toNat) (by omega);obtain ⟨CG,z6,rfl,acJ,acK⟩:=apK.2 _ _ _ fF oc;refine aQ j1 axr (by omega) fF (λ _ jI=>aD fW (jI.ext hs.aF) (aN hs qu (λ ua w4 hs=>have hs:=hs.enc (cs':=Flat.enc (⟨0,(ByteArray.mk #[]),(ByteArray.mk #[]),⟨none,0,0⟩,⟨none,0,0⟩,0,0,0,0⟩:bX)) rfl;aI (x:=(⟨(dI).kind,(dI).gJ,(dI).name,CG,z6,(dI).n,(dI).body,(dI).fD,(dI).at_⟩:bX)) hs fW rfl rfl (λ w5 hs=>aA lS (aB (v:=.string ((dI).gJ)) j5 hs.hb rfl (aA lS (aB (v:=.string ((dI).gJ)) j5 hs.hb rfl (gb gH (r9 (oM gH (by omega) (by omega) (aA lS ?_)))))))))))
   have axs:=DL.flat (acJ);have axt:=DL.flat (acK);refine aV hs j5 (eF rfl) (rfl) (λ w6 hs=>have hs:=hs.enc (cs':=Flat.enc (⟨(dI).kind,(((dI).gJ).extract 0 ((min (((dI).gJ).size:Int) 40)).toNat),(dI).name,CG,z6,(dI).n,(dI).body,(dI).fD,(dI).at_⟩:bX)) rfl;aA jh (aB (v:=.string (dI).name) j5 hs.hb rfl (aA jh (aB (v:=.string (dI).name) j5 hs.hb rfl (gb gH (r9 (oM gH (by omega) (by omega) (aA jh (aV hs j5 (eF rfl) (rfl) (λ w7 hs=>have hs:=hs.enc (cs':=Flat.enc (⟨(dI).kind,(((dI).gJ).extract 0 ((min (((dI).gJ).size:Int) 40)).toNat),(((dI).name).extract 0 ((min (((dI).name).size:Int) 40)).toNat),CG,z6,(dI).n,(dI).body,(dI).fD,(dI).at_⟩:bX)) rfl;aA lT (aB (v:=Flat.val (CG:SV)) mR hs.hb rfl (dB ahp hs (C39 _ _ _ (axs.ext hs.aF)) (λ x39 w8 bZ hs=>?_)))))))))))))
   refine aA lT ?_;obtain ⟨yx,rfl⟩:=(hs).fQ;refine aV hs.p1 mR (eF rfl) (rfl) (λ w9 hs=>have hs:=hs.enc (cs':=Flat.enc (⟨(dI).kind,(((dI).gJ).extract 0 ((min (((dI).gJ).size:Int) 40)).toNat),(((dI).name).extract 0 ((min (((dI).name).size:Int) 40)).toNat),yx,z6,(dI).n,(dI).body,(dI).fD,(dI).at_⟩:bX)) rfl;aA nU (aB (v:=Flat.val (z6:SV)) mR hs.hb rfl (dB ahp hs (C39 _ _ _ (axt.ext hs.aF)) (λ x43 pQ bZ hs=>aA nU ?_))));obtain ⟨Bl,rfl⟩:=(hs).fQ;refine aV hs.p1 mR (eF rfl) (rfl) (λ sP hs=>have hs:=hs.enc (cs':=Flat.enc (⟨(dI).kind,(((dI).gJ).extract 0 ((min (((dI).gJ).size:Int) 40)).toNat),(((dI).name).extract 0 ((min (((dI).name).size:Int) 40)).toNat),yx,Bl,(dI).n,(dI).body,(dI).fD,(dI).at_⟩:bX)) rfl;aD fW hs.At (have hs:=hs.p2.freeze.p2.freeze.p1.fL.dN (Ψ:=(λ w=>cA.dr w (⟨(dI).kind,(((dI).gJ).extract 0 ((min (((dI).gJ).size:Int) 40)).toNat),(((dI).name).extract 0 ((min (((dI).name).size:Int) 40)).toNat),yx,Bl,(dI).n,(dI).body,(dI).fD,(dI).at_⟩:bX) (⟨(dI).kind,(((dI).gJ).extract 0 ((min (((dI).gJ).size:Int) 40)).toNat),(((dI).name).extract 0 ((min (((dI).name).size:Int) 40)).toNat),(xG (dI).e),(xG (dI).f),(dI).n,(dI).body,(dI).fD,(dI).at_⟩:cE))) (λ w h=>⟨_,_,rfl,DL.fp h.1,DL.fp h.2⟩);eJ (s:=(⟨(dI).kind,(((dI).gJ).extract 0 ((min (((dI).gJ).size:Int) 40)).toNat),(((dI).name).extract 0 ((min (((dI).name).size:Int) 40)).toNat),yx,Bl,(dI).n,(dI).body,(dI).fD,(dI).at_⟩:bX)) (x:=(⟨(dI).kind,(((dI).gJ).extract 0 ((min (((dI).gJ).size:Int) 40)).toNat),(((dI).name).extract 0 ((min (((dI).name).size:Int) 40)).toNat),(xG (dI).e),(xG (dI).f),(dI).n,(dI).body,(dI).fD,(dI).at_⟩:cE)) hs j1 (by decide) (λ apL vi hs=>have hs:=hs.p2;dZ hs j1 (by rw [IE,List.length_singleton]; omega) (by decide) (λ apz vj hs=>aO (by omega) ?_))))
   have hs:=(hs.p1).drop;exact ⟨_,by omega,k+1,rfl,rfl,by omega,by omega,by rw [← iP (k:=k) oc]; exact hs⟩
  ·rw [rn (xs:=xs) (k:=k) (m:=50) (by omega) (by omega) (of_decide_eq_false gP)] at hs;exact hs.fresh
set_option maxHeartbeats 4000000 in
theorem C38 (lv:Value) (xs:List dQ) (w:World) (hL:DL w lv xs):CR 38 [lv] w (λ v w'=>lW (fj v (ku xs)) w w'):=by
 have hs:=St.start w;refine agP _ _ _ ?_;unfold S38;refine vS (α:=dQ) hs iJ (λ KV w1 hs=>?_);refine ⟨λ m fV x w1=>∃ k:Nat,x = .int .i64 (k:Int)∧m=4 - k∧k≤4∧k≤xs.length∧St w bD [fj fV ((xs.take k).map xX)] w1,⟨_,0,rfl,rfl,by omega,by omega,hs⟩,?_⟩;rintro m fV _ w2 ⟨k,rfl,rfl,hk,Jn,hs⟩ fy;have IE:((xs.take k).map xX).length=k:=by rw [List.length_map,List.length_take]; omega
 refine ⟨λ jv w'=>jv = .bool (decide (k<xs.length∧k<4))∧St w bD [fj fV ((xs.take k).map xX)] w',?_,?_⟩
 ·obtain ⟨ts64,axu,axv⟩:=(hL).open;have hn64:=axv.1;refine aJ iJ (axu.ext hs.aF) (aR (aC (λ gO=>?_) (λ gO=>?_)))
  ·refine aR ?_;exact ⟨vb (by grind),hs⟩
  ·exact ⟨vb (by grind),hs⟩
 ·rintro _ w3 ⟨rfl,hs⟩ jw;refine aX (λ jG=>?_) (λ jG=>?_)
  ·have hc15:k<xs.length∧k<4:=by simpa using jG
   obtain ⟨axw,NP,apM⟩:=(hL).open;have hn65:=apM.1;obtain ⟨afj,oW⟩:∃ xx,axw[((k:Int)).toNat]? = some xx:=⟨_,List.getElem?_eq_getElem (by omega)⟩;obtain ⟨fI,VQ⟩:∃ xx,(xs)[((k:Int)).toNat]? = some xx:=⟨_,List.getElem?_eq_getElem (by omega)⟩;obtain ⟨yy,NQ,rfl,Ey,Ez⟩:=apM.2 _ _ _ oW VQ;refine ⟨λ nh w'=>St w bD [fj nh ((xs.take k).map xX++[xX fI])] w',?_,?_⟩
   ·refine ⟨λ jv w'=>∃ (EA:Nat) (FM:SV),jv = .pointer (some ⟨EA,0,none⟩)∧St w bD [cD EA (Flat.enc (⟨((fI).name.extract 0 (min (((fI).name).size:Int) 40).toNat),⟨none,0,0⟩,FM,(fI).at_⟩:eg)),fj (Flat.val FM) (Er (fI).body),fj fV ((xs.take k).map xX)] w',?_,?_⟩
    ·refine aQ iJ NP (by omega) oW (λ _ Li=>bP (fI).name zo Li rfl rfl (λ _ z7=>have hs:=hs.drew;aD j5 (z7.ext hs.aF) (aQ iJ NP (by omega) oW (λ _ ud=>bP (fI).name zo ud rfl rfl (λ _ q7=>aD j5 (q7.ext hs.aF) (gb gH (r9 (oM gH (by omega) (by omega) (aQ iJ NP (by omega) oW (λ _ zT=>bP (fI).at_ zp zT rfl rfl (λ _ rp=>aD bL (rp.ext hs.aF) (aQ iJ NP (by omega) oW (λ _ Eb=>?_)))))))))))));refine bP NQ qt Eb rfl rfl (λ _ tY=>aD sN (tY.ext hs.aF) ?_);refine ⟨?_,?_⟩
     ·refine dB amw hs (C92 _ _ _ (Ez.ext hs.aF)) (λ x41 w4 bZ hs=>?_);refine ⟨fP j5 (z7.ext hs.aF),?_⟩;refine ⟨fP j5 (q7.ext hs.aF),?_⟩;refine ⟨fP bL (rp.ext hs.aF),?_⟩;obtain ⟨IF,rfl⟩:=(hs).lI;refine pop (BL _ _ _ _ _) (aN hs M3 (λ b_t5 w5 hs=>?_));have hs:=hs.enc (cs':=Flat.enc (⟨(ByteArray.mk #[]),⟨none,0,0⟩,⟨none,0,0⟩,0⟩:eg)) rfl;refine ⟨fP j5 (z7.ext hs.aF),?_⟩;refine ⟨fP j5 (q7.ext hs.aF),?_⟩;refine ⟨fP bL (rp.ext hs.aF),?_⟩;refine ⟨fP sN (tY.ext hs.aF),?_⟩;refine aI (x:=(⟨(((fI).name).extract 0 ((min (((fI).name).size:Int) 40)).toNat),⟨none,0,0⟩,IF,(fI).at_⟩:eg)) hs H6 rfl rfl (λ w6 hs=>?_)
      have hs:=hs.p2.p2.p2;exact ⟨_,_,rfl,hs⟩
     ·refine ⟨?_,?_⟩
      ·refine aN hs M3 (λ axx w7 hs=>?_);have hs:=hs.enc (cs':=Flat.enc (⟨(ByteArray.mk #[]),⟨none,0,0⟩,⟨none,0,0⟩,0⟩:eg)) rfl;refine ⟨fP j5 (z7.ext hs.aF),?_⟩;refine ⟨fP j5 (q7.ext hs.aF),?_⟩;refine ⟨fP bL (rp.ext hs.aF),?_⟩;refine ⟨fP sN (tY.ext hs.aF),?_⟩;refine dB amw hs (C92 _ _ _ (Ez.ext hs.aF)) (λ x41_1 w8 bZ hs=>?_);refine ⟨fP j5 (z7.ext hs.aF),?_⟩;refine ⟨fP j5 (q7.ext hs.aF),?_⟩;refine ⟨fP bL (rp.ext hs.aF),?_⟩;obtain ⟨VR,rfl⟩:=(hs).lI;refine pop (BL _ _ _ _ _) (aI (x:=(⟨(((fI).name).extract 0 ((min (((fI).name).size:Int) 40)).toNat),⟨none,0,0⟩,VR,(fI).at_⟩:eg)) hs.p1 H6 rfl rfl (λ w9 hs=>?_))
       have hs:=hs.p2.p2.p2;exact ⟨_,_,rfl,hs⟩
      ·trivial
    ·rintro _ pQ ⟨EA,FM,rfl,hs⟩ oN;have hs:=((((hs.fX (α:=ByteArray)).p3).p3).p2).p3;refine ⟨λ m x w1=>∃ (j:Nat) (Lj:SV),x = .int .i64 (j:Int)∧m=6 - j∧j≤6∧j≤(fI).aK.length∧St w bD [cD EA (Flat.enc (⟨((fI).name.extract 0 (min (((fI).name).size:Int) 40).toNat),Lj,FM,(fI).at_⟩:eg)),bK (Flat.val Lj) (((fI).aK.take j).map nD),fj (Flat.val FM) (Er (fI).body),fj fV ((xs.take k).map xX)] w1,⟨_,0,⟨none,0,0⟩,rfl,rfl,by omega,by omega,hs⟩,?_⟩;rintro m _ sP ⟨j,Lj,rfl,rfl,hj,hj2,hs⟩ GF;have aji:(((fI).aK.take j).map nD).length=j:=by rw [List.length_map,List.length_take]; omega
     refine ⟨λ jv w'=>jv = .bool (decide (j<(fI).aK.length∧j<6))∧St w bD [cD EA (Flat.enc (⟨((fI).name.extract 0 (min (((fI).name).size:Int) 40).toNat),Lj,FM,(fI).at_⟩:eg)),bK (Flat.val Lj) (((fI).aK.take j).map nD),fj (Flat.val FM) (Er (fI).body),fj fV ((xs.take k).map xX)] w',?_,?_⟩
     ·refine aQ iJ NP (by omega) oW (λ _ KS=>bP yy jn KS rfl rfl (λ _ DW=>aD pw (DW.ext hs.aF) ?_));have axz:=DL.flat (Ey);refine aJ mS (axz.ext hs.aF) (aR (aC (λ oe=>?_) (λ oe=>?_)))
      ·refine aR ?_;exact ⟨vb (by grind),hs⟩
      ·exact ⟨vb (by grind),hs⟩
     ·rintro _ vi ⟨rfl,hs⟩ R0;refine aX (λ wi=>?_) (λ wi=>?_)
      ·have hc54:j<(fI).aK.length∧j<6:=by simpa using wi
       refine aA jn (have hs:=hs.drew;aB (v:=Flat.val (Lj:SV)) pw hs.hb rfl (aQ iJ NP (by omega) oW (λ _ Vk=>bP yy jn Vk rfl rfl (λ _ EB=>aD pw (EB.ext hs.aF) ?_))));have apN:=DL.flat (Ey);obtain ⟨afk,NR⟩:=gx ((fI).aK) (i:=((j:Int)).toNat) (by omega);refine aQ mS apN (by omega) NR (λ _ BS=>aD j5 (BS.ext hs.aF) (aQ iJ NP (by omega) oW (λ _ Vl=>bP yy jn Vl rfl rfl (λ _ Lh=>aD pw (Lh.ext hs.aF) (aQ mS apN (by omega) NR (λ _ apO=>aD j5 (apO.ext hs.aF) (gb gH (r9 (oM gH (by omega) (by omega) (bW ([((afk).extract 0 ((min ((afk).size:Int) 40)).toNat)]) hs mS rfl rfl (eF rfl) (λ apP vj hs=>?_)))))))))))
       refine ⟨aG pw (hs.p1.hb.cell rfl),?_⟩;have ajj:=(hs).fK;refine cN hs.p2 mS ajj (by rw [aji,List.length_singleton]; omega) (by decide) (λ s_x79 sd hs=>have hs:=hs.p1.drop;aA jn ?_);obtain ⟨VS,rfl⟩:=(hs).fQ;refine aV hs.p1 pw (eF rfl) (rfl) (λ vW hs=>have hs:=hs.enc (cs':=Flat.enc (⟨((fI).name.extract 0 (min (((fI).name).size:Int) 40).toNat),VS,FM,(fI).at_⟩:eg)) rfl;aO (by omega) ?_);have hs:=hs.p3.p3.p3.p3;exact ⟨_,by omega,j+1,VS,rfl,rfl,by omega,by omega,by rw [← iP (k:=j) NR]; exact hs⟩
      ·refine aD H6 hs.At (have hs:=hs.p1.freeze.p2.jF.p1.fL.dN (Ψ:=(λ w=>cA.dr w (⟨((fI).name.extract 0 (min (((fI).name).size:Int) 40).toNat),Lj,FM,(fI).at_⟩:eg) (⟨((fI).name.extract 0 (min (((fI).name).size:Int) 40).toNat),(((fI).aK.take j).map nD),(Er (fI).body),(fI).at_⟩:dQ))) (λ w h=>⟨_,_,rfl,DL.fp h.1,h.2⟩);eJ (s:=(⟨((fI).name.extract 0 (min (((fI).name).size:Int) 40).toNat),Lj,FM,(fI).at_⟩:eg)) (x:=(⟨((fI).name.extract 0 (min (((fI).name).size:Int) 40).toNat),(((fI).aK.take j).map nD),(Er (fI).body),(fI).at_⟩:dQ)) hs iJ (by decide) (λ apQ yM hs=>have hs:=hs.p2;dZ hs iJ (by rw [IE,List.length_singleton]; omega) (by decide) (λ afb Cd hs=>?_)))
       have hs:=(hs.p1).drop;rw [rn (xs:=(fI).aK) (k:=j) (m:=6) (by omega) (by omega) (of_decide_eq_false wi)] at hs;exact hs
   ·rintro nh Il hs dd6;refine aO (by omega) ?_;exact ⟨_,by omega,k+1,rfl,rfl,by omega,by omega,by rw [← iP (k:=k) VQ]; exact hs⟩
  ·rw [rn (xs:=xs) (k:=k) (m:=4) (by omega) (by omega) (of_decide_eq_false jG)] at hs;exact hs.fresh
set_option maxHeartbeats 4000000 in
theorem C11 (p:cX) (pv:bN) (w:World) (hp:cA.dr w pv p):CR 11 [Flat.val pv] w (λ v w'=>∃ qv:bN,v=Flat.val qv∧lW (eX (λ w=>cA.dr w qv (qJ p))) w w'):=by
 obtain ⟨bH,bQ,bI,aT,aU,aY,rfl,cI,cY,cJ,bR,bO,cB⟩:=hp;have hs:=St.start w;refine agw _ _ _ ?_;unfold S11;refine dE hs (λ kD w1 hs=>aN hs uH (λ lY w2 hs=>?_));have hs:=hs.enc (cs':=Flat.enc (⟨⟨none,0,0⟩,⟨none,0,0⟩,⟨none,0,0⟩,⟨none,0,0⟩,⟨none,0,0⟩,⟨none,0,0⟩⟩:bN)) rfl;refine ⟨λ jv w'=>∃ (yz:Nat) (NS NT NU NV:SV),jv = .pointer (some ⟨yz,0,none⟩)∧St w bD [cD yz (Flat.enc (⟨⟨none,0,0⟩,NS,NT,NU,NV,⟨none,0,0⟩⟩:bN)),bK (Flat.val NS) (iW p.jP),bK (Flat.val NT) (iW p.locks),fj (Flat.val NU) (ku p.threads),fj (Flat.val NV) (ku p.recover),cD kD (Flat.enc (⟨bH,bQ,bI,aT,aU,aY⟩:bN)),cD lY (Flat.enc (⟨⟨none,0,0⟩,⟨none,0,0⟩,⟨none,0,0⟩,⟨none,0,0⟩,⟨none,0,0⟩,⟨none,0,0⟩⟩:bN))] w',?_,?_⟩
 ·refine aA uG (have hs:=hs.drew;aB jt hs.p1.hb rfl ?_);have apR:=DL.flat (cY);refine aA rT (aB jt hs.p1.hb rfl ?_);have ajk:=DL.flat (cJ);refine aA nc (aB ja hs.p1.hb rfl (aA rU (aB ja hs.p1.hb rfl ?_)));refine ⟨?_,?_⟩
  ·refine dB RD hs (C37 _ _ _ (apR.ext hs.aF)) (λ x8 w3 bZ hs=>?_);refine ⟨aG jt (hs.p2.hb.cell rfl),?_⟩;refine ⟨aG ja (hs.p2.hb.cell rfl),?_⟩;refine ⟨aG ja (hs.p2.hb.cell rfl),?_⟩;refine ⟨?_,?_⟩
   ·refine dB RD hs (C37 _ _ _ (ajk.ext hs.aF)) (λ x11 w4 bZ hs=>?_);refine ⟨aG ja (hs.p3.hb.cell rfl),?_⟩;refine ⟨aG ja (hs.p3.hb.cell rfl),?_⟩;refine ⟨?_,?_⟩
    ·refine dB HG hs (C38 _ _ _ (bR.ext hs.aF)) (λ x14 w5 bZ hs=>?_);refine ⟨aG ja (hs.p4.hb.cell rfl),?_⟩;refine ⟨?_,?_⟩
     ·refine dB HG hs (C38 _ _ _ (bO.ext hs.aF)) (λ x17 w6 bZ hs=>?_);obtain ⟨EC,rfl⟩:=(hs.p3).fQ;obtain ⟨l9,rfl⟩:=(hs.p2).fQ;obtain ⟨oq,rfl⟩:=(hs.p1).lI;obtain ⟨VT,rfl⟩:=(hs).lI;refine pop (mY _ _ _ _ _ _ _ _ _ _ _ _) (aN hs uH (λ b_q3 w7 hs=>?_));have hs:=hs.enc (cs':=Flat.enc (⟨⟨none,0,0⟩,⟨none,0,0⟩,⟨none,0,0⟩,⟨none,0,0⟩,⟨none,0,0⟩,⟨none,0,0⟩⟩:bN)) rfl;refine ⟨aG jt (hs.p6.hb.cell rfl),?_⟩;refine ⟨aG jt (hs.p6.hb.cell rfl),?_⟩;refine ⟨aG ja (hs.p6.hb.cell rfl),?_⟩;refine ⟨aG ja (hs.p6.hb.cell rfl),?_⟩;refine aI (x:=(⟨⟨none,0,0⟩,EC,l9,oq,VT,⟨none,0,0⟩⟩:bN)) hs gI rfl rfl (λ w8 hs=>?_)
      have hs:=hs.p5.p6.p3.p4.p5.p6.p6;exact ⟨_,_,_,_,_,rfl,hs⟩
     ·refine ⟨?_,?_⟩
      ·refine aN hs uH (λ axA w9 hs=>?_);have hs:=hs.enc (cs':=Flat.enc (⟨⟨none,0,0⟩,⟨none,0,0⟩,⟨none,0,0⟩,⟨none,0,0⟩,⟨none,0,0⟩,⟨none,0,0⟩⟩:bN)) rfl;refine ⟨aG jt (hs.p5.hb.cell rfl),?_⟩;refine ⟨aG jt (hs.p5.hb.cell rfl),?_⟩;refine ⟨aG ja (hs.p5.hb.cell rfl),?_⟩;refine ⟨aG ja (hs.p5.hb.cell rfl),?_⟩;refine dB HG hs (C38 _ _ _ (bO.ext hs.aF)) (λ apS pQ bZ hs=>?_);obtain ⟨EC,rfl⟩:=(hs.p4).fQ;obtain ⟨l9,rfl⟩:=(hs.p3).fQ;obtain ⟨oq,rfl⟩:=(hs.p2).lI;obtain ⟨Lk,rfl⟩:=(hs).lI;refine pop (mY _ _ _ _ _ _ _ _ _ _ _ _) (aI (x:=(⟨⟨none,0,0⟩,EC,l9,oq,Lk,⟨none,0,0⟩⟩:bN)) hs.p1 gI rfl rfl (λ sP hs=>?_))
       have hs:=hs.p5.p6.p3.p4.p5.p6.p6;exact ⟨_,_,_,_,_,rfl,hs⟩
      ·trivial
    ·refine ⟨?_,?_⟩
     ·refine aN hs uH (λ axB vi hs=>?_);have hs:=hs.enc (cs':=Flat.enc (⟨⟨none,0,0⟩,⟨none,0,0⟩,⟨none,0,0⟩,⟨none,0,0⟩,⟨none,0,0⟩,⟨none,0,0⟩⟩:bN)) rfl;refine ⟨aG jt (hs.p4.hb.cell rfl),?_⟩;refine ⟨aG jt (hs.p4.hb.cell rfl),?_⟩;refine ⟨aG ja (hs.p4.hb.cell rfl),?_⟩;refine ⟨aG ja (hs.p4.hb.cell rfl),?_⟩;refine dB HG hs (C38 _ _ _ (bR.ext hs.aF)) (λ x14_1 vj bZ hs=>?_);refine ⟨aG ja (hs.p5.hb.cell rfl),?_⟩;refine dB HG hs (C38 _ _ _ (bO.ext hs.aF)) (λ apT sd bZ hs=>?_);obtain ⟨EC,rfl⟩:=(hs.p4).fQ;obtain ⟨l9,rfl⟩:=(hs.p3).fQ;obtain ⟨VU,rfl⟩:=(hs.p1).lI
      obtain ⟨Ll,rfl⟩:=(hs).lI;refine pop (mY _ _ _ _ _ _ _ _ _ _ _ _) (aI (x:=(⟨⟨none,0,0⟩,EC,l9,VU,Ll,⟨none,0,0⟩⟩:bN)) hs.p2 gI rfl rfl (λ vW hs=>?_));have hs:=hs.p5.p6.p3.p4.p5.p6.p6;exact ⟨_,_,_,_,_,rfl,hs⟩
     ·trivial
   ·refine ⟨?_,?_⟩
    ·refine aN hs uH (λ axC yM hs=>?_);have hs:=hs.enc (cs':=Flat.enc (⟨⟨none,0,0⟩,⟨none,0,0⟩,⟨none,0,0⟩,⟨none,0,0⟩,⟨none,0,0⟩,⟨none,0,0⟩⟩:bN)) rfl;refine ⟨aG jt (hs.p3.hb.cell rfl),?_⟩;refine ⟨aG jt (hs.p3.hb.cell rfl),?_⟩;refine ⟨aG ja (hs.p3.hb.cell rfl),?_⟩;refine ⟨aG ja (hs.p3.hb.cell rfl),?_⟩;refine dB RD hs (C37 _ _ _ (ajk.ext hs.aF)) (λ x11_1 Cd bZ hs=>?_);refine ⟨aG ja (hs.p4.hb.cell rfl),?_⟩;refine ⟨aG ja (hs.p4.hb.cell rfl),?_⟩;refine dB HG hs (C38 _ _ _ (bR.ext hs.aF)) (λ x14_2 Il bZ hs=>?_);refine ⟨aG ja (hs.p5.hb.cell rfl),?_⟩
     refine dB HG hs (C38 _ _ _ (bO.ext hs.aF)) (λ x17_3 Jo bZ hs=>?_);obtain ⟨EC,rfl⟩:=(hs.p4).fQ;obtain ⟨VV,rfl⟩:=(hs.p2).fQ;obtain ⟨VW,rfl⟩:=(hs.p1).lI;obtain ⟨VX,rfl⟩:=(hs).lI;refine pop (mY _ _ _ _ _ _ _ _ _ _ _ _) (aI (x:=(⟨⟨none,0,0⟩,EC,VV,VW,VX,⟨none,0,0⟩⟩:bN)) hs.p3 gI rfl rfl (λ KA hs=>?_));have hs:=hs.p5.p6.p3.p4.p5.p6.p6;exact ⟨_,_,_,_,_,rfl,hs⟩
    ·trivial
  ·refine ⟨?_,?_⟩
   ·refine aN hs uH (λ axD Mx hs=>?_);have hs:=hs.enc (cs':=Flat.enc (⟨⟨none,0,0⟩,⟨none,0,0⟩,⟨none,0,0⟩,⟨none,0,0⟩,⟨none,0,0⟩,⟨none,0,0⟩⟩:bN)) rfl;refine ⟨aG jt (hs.p2.hb.cell rfl),?_⟩;refine ⟨aG jt (hs.p2.hb.cell rfl),?_⟩;refine ⟨aG ja (hs.p2.hb.cell rfl),?_⟩;refine ⟨aG ja (hs.p2.hb.cell rfl),?_⟩;refine dB RD hs (C37 _ _ _ (apR.ext hs.aF)) (λ x8_1 Qp bZ hs=>?_);refine ⟨aG jt (hs.p3.hb.cell rfl),?_⟩;refine ⟨aG ja (hs.p3.hb.cell rfl),?_⟩;refine ⟨aG ja (hs.p3.hb.cell rfl),?_⟩;refine dB RD hs (C37 _ _ _ (ajk.ext hs.aF)) (λ x11_2 Tn bZ hs=>?_)
    refine ⟨aG ja (hs.p4.hb.cell rfl),?_⟩;refine ⟨aG ja (hs.p4.hb.cell rfl),?_⟩;refine dB HG hs (C38 _ _ _ (bR.ext hs.aF)) (λ x14_3 VF bZ hs=>?_);refine ⟨aG ja (hs.p5.hb.cell rfl),?_⟩;refine dB HG hs (C38 _ _ _ (bO.ext hs.aF)) (λ x17_4 R7 bZ hs=>?_);obtain ⟨CH,rfl⟩:=(hs.p3).fQ;obtain ⟨VY,rfl⟩:=(hs.p2).fQ;obtain ⟨VZ,rfl⟩:=(hs.p1).lI;obtain ⟨V0,rfl⟩:=(hs).lI;refine pop (mY _ _ _ _ _ _ _ _ _ _ _ _) (aI (x:=(⟨⟨none,0,0⟩,CH,VY,VZ,V0,⟨none,0,0⟩⟩:bN)) hs.p4 gI rfl rfl (λ w26 hs=>?_));have hs:=hs.p5.p6.p3.p4.p5.p6.p6
    exact ⟨_,_,_,_,_,rfl,hs⟩
   ·trivial
 ·rintro _ w27 ⟨yz,NS,NT,NU,NV,rfl,hs⟩ fy;have hs:=((((((((hs.xC (α:=(List dF))).p7).p7).p7).p7).p7).p7).p6).p7;refine ⟨λ m x w1=>∃ (k:Nat) (sl:SV),x = .int .i64 (k:Int)∧m=6 - k∧k≤6∧k≤p.lines.length∧St w bD [cD yz (Flat.enc (⟨sl,NS,NT,NU,NV,⟨none,0,0⟩⟩:bN)),fj (Flat.val sl) ((p.lines.take k).map iW),bK (Flat.val NS) (iW p.jP),bK (Flat.val NT) (iW p.locks),fj (Flat.val NU) (ku p.threads),fj (Flat.val NV) (ku p.recover),cD kD (Flat.enc (⟨bH,bQ,bI,aT,aU,aY⟩:bN)),cD lY (Flat.enc (⟨⟨none,0,0⟩,⟨none,0,0⟩,⟨none,0,0⟩,⟨none,0,0⟩,⟨none,0,0⟩,⟨none,0,0⟩⟩:bN))] w1,⟨_,0,⟨none,0,0⟩,rfl,rfl,by omega,by omega,hs⟩,?_⟩
  rintro m _ w28 ⟨k,sl,rfl,rfl,hk,Jn,hs⟩ jw;have IE:((p.lines.take k).map iW).length=k:=by rw [List.length_map,List.length_take]; omega
  refine ⟨λ jv w'=>jv = .bool (decide (k<p.lines.length∧k<6))∧St w bD [cD yz (Flat.enc (⟨sl,NS,NT,NU,NV,⟨none,0,0⟩⟩:bN)),fj (Flat.val sl) ((p.lines.take k).map iW),bK (Flat.val NS) (iW p.jP),bK (Flat.val NT) (iW p.locks),fj (Flat.val NU) (ku p.threads),fj (Flat.val NV) (ku p.recover),cD kD (Flat.enc (⟨bH,bQ,bI,aT,aU,aY⟩:bN)),cD lY (Flat.enc (⟨⟨none,0,0⟩,⟨none,0,0⟩,⟨none,0,0⟩,⟨none,0,0⟩,⟨none,0,0⟩,⟨none,0,0⟩⟩:bN))] w',?_,?_⟩
  ·refine aA jm (aB rO hs.p6.hb rfl ?_);obtain ⟨ts70,axE,axF⟩:=(cI).open;have hn70:=axF.1;refine aJ vv (axE.ext hs.aF) (aR (aC (λ iO=>?_) (λ iO=>?_)))
   ·refine aR ?_;exact ⟨vb (by grind),hs⟩
   ·exact ⟨vb (by grind),hs⟩
  ·rintro _ w29 ⟨rfl,hs⟩ oN;refine aX (λ gh=>?_) (λ gh=>?_)
   ·have hc27:k<p.lines.length∧k<6:=by simpa using gh
    refine aA jm (have hs:=hs.drew;aB (v:=Flat.val (sl:SV)) rO hs.hb rfl (aA jm (aB rO hs.p6.hb rfl ?_)));obtain ⟨axG,axH,apU⟩:=(cI).open;have hn71:=apU.1;obtain ⟨apV,V1⟩:=gx axG (i:=((k:Int)).toNat) (by omega);obtain ⟨V2,V3⟩:=gx ((p).lines) (i:=((k:Int)).toNat) (by omega);have apW:DL w (Flat.val apV) V2:=apU.2 _ _ _ V1 V3;refine aQ vv axH (by omega) V1 (λ _ zG=>aD jt (zG.ext hs.aF) ?_);have axI:=DL.flat (apW);refine dB RD hs (C37 _ _ _ (axI.ext hs.aF)) (λ x37 w30 bZ hs=>?_);refine ⟨aG rO (hs.p1.hb.cell rfl),?_⟩;obtain ⟨oT,rfl⟩:=(hs).fQ
    have hs:=hs.freeze.dN (Ψ:=λ w=>cA.dr w oT ((iW V2))) (λ w h=>DL.fp h);refine eJ (s:=oT) (x:=(iW V2)) hs vv (by decide) (λ ae9 w31 hs=>?_);refine ⟨aG rO (hs.p1.hb.cell rfl),?_⟩;have hs:=hs.p2;refine dZ hs vv (by rw [IE,List.length_singleton]; omega) (by decide) (λ afl w32 hs=>aA jm ?_);obtain ⟨yx,rfl⟩:=(hs).lI;refine aV hs.p1 rO (eF rfl) (rfl) (λ w33 hs=>have hs:=hs.enc (cs':=Flat.enc (⟨yx,NS,NT,NU,NV,⟨none,0,0⟩⟩:bN)) rfl;aO (by omega) ?_);have hs:=hs.p7.p7.p7.p7.p7.p7.p7.p7;exact ⟨_,by omega,k+1,yx,rfl,rfl,by omega,by omega,by rw [← iP (k:=k) V3]; exact hs⟩
   ·rw [rn (xs:=p.lines) (k:=k) (m:=6) (by omega) (by omega) (of_decide_eq_false gh)] at hs;have hs:=(((((((((hs.xC (α:=ju)).p8).p8).p8).p8).p8).p8).p8).p7).p8;refine ⟨λ m x w1=>∃ (j:Nat) (sc:SV),x = .int .i64 (j:Int)∧m=6 - j∧j≤6∧j≤p.cC.length∧St w bD [cD yz (Flat.enc (⟨sl,NS,NT,NU,NV,sc⟩:bN)),fj (Flat.val sc) ((p.cC.take j).map Es),fj (Flat.val sl) ((p.lines.take 6).map iW),bK (Flat.val NS) (iW p.jP),bK (Flat.val NT) (iW p.locks),fj (Flat.val NU) (ku p.threads),fj (Flat.val NV) (ku p.recover),cD kD (Flat.enc (⟨bH,bQ,bI,aT,aU,aY⟩:bN)),cD lY (Flat.enc (⟨⟨none,0,0⟩,⟨none,0,0⟩,⟨none,0,0⟩,⟨none,0,0⟩,⟨none,0,0⟩,⟨none,0,0⟩⟩:bN))] w1,⟨_,0,⟨none,0,0⟩,rfl,rfl,by omega,by omega,hs⟩,?_⟩
    rintro m _ w34 ⟨j,sc,rfl,rfl,hj,hj2,hs⟩ GF;have aji:((p.cC.take j).map Es).length=j:=by rw [List.length_map,List.length_take]; omega
    refine ⟨λ jv w'=>jv = .bool (decide (j<p.cC.length∧j<6))∧St w bD [cD yz (Flat.enc (⟨sl,NS,NT,NU,NV,sc⟩:bN)),fj (Flat.val sc) ((p.cC.take j).map Es),fj (Flat.val sl) ((p.lines.take 6).map iW),bK (Flat.val NS) (iW p.jP),bK (Flat.val NT) (iW p.locks),fj (Flat.val NU) (ku p.threads),fj (Flat.val NV) (ku p.recover),cD kD (Flat.enc (⟨bH,bQ,bI,aT,aU,aY⟩:bN)),cD lY (Flat.enc (⟨⟨none,0,0⟩,⟨none,0,0⟩,⟨none,0,0⟩,⟨none,0,0⟩,⟨none,0,0⟩,⟨none,0,0⟩⟩:bN))] w',?_,?_⟩
    ·refine aA kJ (aB sM hs.p7.hb rfl ?_);obtain ⟨ts73,axJ,axK⟩:=(cB).open;have hn73:=axK.1;refine aJ yk (axJ.ext hs.aF) (aR (aC (λ kG=>?_) (λ kG=>?_)))
     ·refine aR ?_;exact ⟨vb (by grind),hs⟩
     ·exact ⟨vb (by grind),hs⟩
    ·rintro _ w35 ⟨rfl,hs⟩ R0;refine aX (λ vn=>?_) (λ vn=>?_)
     ·have hc49:j<p.cC.length∧j<6:=by simpa using vn
      refine aA kJ (have hs:=hs.drew;aB (v:=Flat.val (sc:SV)) sM hs.hb rfl (aA kJ (aB sM hs.p7.hb rfl ?_)));obtain ⟨axL,apX,apY⟩:=(cB).open;have hn74:=apY.1;obtain ⟨Lf,oU⟩:=gx axL (i:=((j:Int)).toNat) (by omega);obtain ⟨pL,rk⟩:=gx ((p).cC) (i:=((j:Int)).toNat) (by omega);obtain ⟨acL,rfl,acM⟩:=apY.2 _ _ _ oU rk;refine aQ yk apX (by omega) oU (λ _ ub=>bP acL Cy ub rfl rfl (λ _ wj=>aD mR (wj.ext hs.aF) ?_));have axM:=DL.flat (acM);refine aA kJ (aB sM hs.p7.hb rfl (aQ yk apX (by omega) oU (λ _ D7=>bP (pL).at_ PC D7 rfl rfl (λ _ BS=>aD bL (BS.ext hs.aF) (dB ahp hs (C39 _ _ _ (axM.ext hs.aF)) (λ x60 w36 bZ hs=>?_))))))
      refine ⟨aG sM (hs.p1.hb.cell rfl),?_⟩;refine ⟨aG sM (hs.p8.hb.cell rfl),?_⟩;refine ⟨fP bL (BS.ext hs.aF),?_⟩;obtain ⟨Bm,rfl⟩:=(hs).fQ;refine pop (Gr _ _ _ _) (have hs:=hs.freeze.dN (Ψ:=(λ w=>cA.dr w (⟨Bm,(pL).at_⟩:lJ) (⟨(xG (pL).e),(pL).at_⟩:ju))) (λ w h=>⟨_,rfl,DL.fp h⟩);eJ (s:=(⟨Bm,(pL).at_⟩:lJ)) (x:=(⟨(xG (pL).e),(pL).at_⟩:ju)) hs yk (by decide) (λ s_x68 w37 hs=>?_));refine ⟨aG sM (hs.p1.hb.cell rfl),?_⟩;have hs:=hs.p2;refine dZ hs yk (by rw [aji,List.length_singleton]; omega) (by decide) (λ s_x69 w38 hs=>aA kJ ?_)
      obtain ⟨V4,rfl⟩:=(hs).lI;refine aV hs.p1 sM (eF rfl) (rfl) (λ Yn hs=>have hs:=hs.enc (cs':=Flat.enc (⟨sl,NS,NT,NU,NV,V4⟩:bN)) rfl;aO (by omega) ?_);have hs:=hs.p8.p8.p8.p8.p8.p8.p8.p8.p8;exact ⟨_,by omega,j+1,V4,rfl,rfl,by omega,by omega,by rw [← iP (k:=j) rk]; exact hs⟩
     ·refine aD gI hs.At (aI (x:=(⟨sl,NS,NT,NU,NV,sc⟩:bN)) hs.p8 gI rfl rfl (λ w40 hs=>aD gI hs.At ?_));rw [rn (xs:=p.cC) (k:=j) (m:=6) (by omega) (by omega) (of_decide_eq_false vn)] at hs;have hs:=hs.p3.jF.p4.freeze.p1.fL.p4.freeze.p1.fL.p4.jF.p1.fL.p4.jF.p1.fL;have hs:=hs.p3.jF.p1.fL.dN (Ψ:=(λ w=>cA.dr w (⟨sl,NS,NT,NU,NV,sc⟩:bN) (⟨((p.lines.take 6).map iW),(iW p.jP),(iW p.locks),(ku p.threads),(ku p.recover),((p.cC.take 6).map Es)⟩:cX))) (λ w h=>⟨_,_,_,_,_,_,rfl,h.1.1.1.1.1,DL.fp h.1.1.1.1.2,DL.fp h.1.1.1.2,h.1.1.2,h.1.2,h.2⟩)
      have hs:=(((hs.p1.drop.p1).drop).p1).drop;exact ⟨_,rfl,hs.fresh⟩
def Lm (n many:Int):Bool:=decide (0≤n) && decide (n<many)
def so (k:Int):Bool:=decide (k=1) || decide (k=3) || decide (k=4) || decide (k=12) || decide (k=15)
def aM (x:aW) (aK counts:Int):Bool:=if x.kind=13∨x.kind=14 then Lm x.a counts else if x.kind=1∨x.kind=2∨x.kind=4 then Lm x.a aK else decide (x.a=0)
def bM (x:aW) (cells lines locks:Int):Bool:=if x.kind=2∨x.kind=3∨x.kind=4 then Lm x.b cells else if x.kind=5∨x.kind=6 then Lm x.b lines else if x.kind=9∨x.kind=10 then Lm x.b locks else if x.kind=13 then decide (1≤x.b) && decide (x.b≤8) else decide (x.b=0)
def efM (x:aW) (aK:Int):Bool:=(if so x.kind=true then eK x.e aK else !decide (0<(x.e.length:Int))) && (if x.kind=4 then eK x.f aK else !decide (0<(x.f.length:Int)))
def uY (x:aW) (c:fm) (cells lines locks:Int):Bool:=efM x c.aK && (decide (1≤x.kind) && decide (x.kind≤15) && aM x c.aK c.counts && bM x cells lines locks)
def sq (y:aW) (a:Int):Bool:=decide (y.kind=13) && decide (y.a=a)
def btM (l:List aW) (i:Nat) (x:aW):Bool:=decide (1≤x.to) && decide (x.to≤i) && (match l[(x.to - 1).toNat]? with | some y=>sq y x.a | none=>false)
theorem V5 {l:List aW} {i:Nat} {x y:aW} (h1:1≤x.to) (h2:x.to≤i) (h:l[(x.to - 1).toNat]? = some y):btM l i x=sq y x.a:=by unfold btM; rw [h,decide_eq_true h1,decide_eq_true h2]; rfl
theorem Ln {l:List aW} {i:Nat} {x:aW} (h:x.to<1∨(i:Int)<x.to):btM l i x=false:=by
 unfold btM
 rcases h with h | h
 ·rw [decide_eq_false (show ¬ 1≤x.to by omega)]; rfl
 ·rw [decide_eq_false (show ¬ x.to≤(i:Int) by omega)]; simp
theorem apZ {l:List aW} {i:Nat} {x:aW} (h:btM l i x=true):1≤x.to∧x.to≤i:=by
 by_cases h1:x.to<1∨(i:Int)<x.to
 ·rw [Ln h1] at h; cases h
 ·omega
def BT (l:List aW) (i:Nat) (x:aW):Bool:=btM l i x && !((l.take i).drop x.to.toNat).any (λ y=>sq y x.a)
def IG (l:List aW) (i:Nat) (x:aW):Bool:=if x.kind=11∨x.kind=12 then decide ((i:Int)<x.to) && decide (x.to≤l.length) else if x.kind=14 then BT l i x else decide (x.to=0)
def uZ (c:fm) (cells lines locks:Int) (i:Nat):Bool:=match c.l[i]? with | some x=>!uY x c cells lines locks || !IG c.l i x | none=>false
def u3 (l:List aW) (x:aW) (k:Nat):Bool:=match l[k]? with | some y=>decide (y.kind=14) && !(decide (x.to≤y.to) || decide ((k:Int)+1<x.to)) | none=>false
def qw (l:List aW) (i:Nat):Bool:=match l[i]? with | some x=>decide (x.kind=14) && (List.range i).any (u3 l x) | none=>false
def u4 (c:fm):Bool:=decide (c.aK<0) || decide (4<c.aK) || decide (c.counts<0) || decide (12<c.counts)
def lj (c:fm) (cells lines locks:Int):Bool:=!u4 c && !(List.range c.l.length).any (uZ c cells lines locks) && !(List.range c.l.length).any (qw c.l)
def gp (u:im):Int:=if 1≤u.stays∧u.stays≤u.lines.length then u.lines.getD (u.stays - 1).toNat 0+1 else 0
def lq (l:List Int) (i:Nat):Int:=if i=0 then 0 else l.getD (i - 1) 0+1
def j6 (u:im) (i:Nat):Bool:=match u.lines[i]? with | some n=>decide (¬ n=lq u.lines i) && (decide (i=0) || decide (u.stays≤i) || decide (¬ n=lq u.lines i - 1)) | none=>false
def lr (n:Int):Bool:=decide (n<0) || decide (4294967296<n)
def kQ (u:im):Bool:=decide (20<(u.lines.length:Int)) || decide (u.stays<0) || decide ((u.lines.length:Int)<u.stays) || decide (¬ (u.dC.length:Int)=u.lines.length) || decide (u.locks<0) || decide (2<u.locks) || decide ((u.threads.length:Int)<1) || decide (3<(u.threads.length:Int))
def nt (u:im):Bool:=!kQ u && (!u.dC.any lr && !(List.range u.lines.length).any (j6 u) && !u.threads.any (λ c=>!lj c u.lines.length (gp u) u.locks) && !u.cC.any (λ l=>!eK l u.stays) && lj u.recover u.lines.length (gp u) u.locks)
structure CZ (c:fm):Prop where
 l:c.l.length≤1000
 ef:∀ x∈c.l,x.e.length≤1000∧x.f.length≤1000
structure UZ (u:im):Prop where
 lines:u.lines.length≤1000
 dC:u.dC.length≤1000
 threads:u.threads.length≤1000
 cC:u.cC.length≤1000
 th:∀ c∈u.threads,CZ c
 rc:CZ u.recover
 cl:∀ l∈u.cC,l.length≤1000
theorem ue {c:fm} {cells lines locks:Int} {i:Nat} {x:aW} (h:c.l[i]? = some x):uZ c cells lines locks i=(!uY x c cells lines locks || !IG c.l i x):=by unfold uZ; rw [h]
theorem z8 {l:List aW} {x y:aW} {k:Nat} (h:l[k]? = some y):u3 l x k=(decide (y.kind=14) && !(decide (x.to≤y.to) || decide ((k:Int)+1<x.to))):=by unfold u3; rw [h]
theorem xi {l:List aW} {i:Nat} {x:aW} (h:l[i]? = some x):qw l i=(decide (x.kind=14) && (List.range i).any (u3 l x)):=by unfold qw; rw [h]
theorem acO {l:List aW} {i:Nat} {x:aW} (h:BT l i x=true):1≤x.to∧x.to≤i:=by unfold BT at h; rw [Bool.and_eq_true] at h; exact apZ h.1
theorem V6 {l:List aW} {i:Nat} {x:aW} (hk:x.kind=14) (h:IG l i x=true):1≤x.to∧x.to≤i:=by
 unfold IG at h; rw [if_neg (by omega),if_pos hk] at h; exact acO h
theorem V7 {l:List aW} {i:Nat} {x:aW} (h:btM l i x=false):BT l i x=false:=by unfold BT; rw [h]; rfl
theorem GO {f:Nat→Bool} {n:Nat} (h:(List.range n).any f=false):∀ j,j<n→f j=false:=λ j hj=>by
 rw [List.any_eq_false] at h
 have:=h j (List.mem_range.2 hj)
 simpa using this
theorem ED {u:im} {k:Nat} (h:∀ j,j<k→j6 u j=false):∀ j n,j<k→u.lines[j]? = some n→-1≤n∧n≤j
 | 0,n,hj,hn=>by
  have:=h 0 hj
  unfold j6 lq at this
  rw [hn] at this
  simp at this
  omega
 | j+1,n,hj,hn=>by
  have mv:=(List.getElem?_eq_some_iff.1 hn).1
  obtain ⟨m,hm⟩:∃ m,u.lines[j]? = some m:=⟨_,List.getElem?_eq_getElem (by omega)⟩
  have ih:=ED h j m (by omega) hm
  have:=h (j+1) hj
  unfold j6 lq at this
  rw [hn] at this
  simp only [Nat.add_one_ne_zero,if_false,Nat.add_sub_cancel,List.getD_eq_getElem?_getD,hm,Option.getD_some,decide_false,Bool.false_or,Bool.and_eq_false_iff,decide_eq_false_iff_not,Bool.or_eq_false_iff,Decidable.not_not] at this
  omega
theorem GP {u:im} {k:Nat} {n:Int} (h:u.lines[k]? = some n):j6 u k=(decide (¬ n=lq u.lines k) && (decide ((k:Int)=0) || decide (u.stays≤k) || decide (¬ n=lq u.lines k - 1))):=by
 unfold j6; rw [h]; simp only []
 congr 2
 congr 1
 exact decide_eq_decide.2 (by omega)
theorem Lo {u:im} (h:∀ j,j<u.lines.length→j6 u j=false):∀ n∈u.lines,-1≤n∧n≤(u.lines.length:Int):=by
 intro n hn
 obtain ⟨j,hj,he⟩:=List.mem_iff_getElem.1 hn
 have:=ED h j n hj (by rw [List.getElem?_eq_getElem hj,he])
 omega
theorem NW {u:im} (h:kQ u=false):u.lines.length≤20∧0≤u.stays∧u.stays≤u.lines.length∧u.dC.length=u.lines.length∧0≤u.locks∧u.locks≤2∧1≤u.threads.length∧u.threads.length≤3:=by
 unfold kQ at h
 simp only [Bool.or_eq_false_iff,decide_eq_false_iff_not] at h
 omega
def ajm:List ByteArray:=[⟨#[]⟩,⟨#[114,101]⟩,⟨#[114,99]⟩,⟨#[99,101]⟩,⟨#[114,99,101,102]⟩,⟨#[108]⟩,⟨#[108]⟩,⟨#[]⟩,⟨#[]⟩,⟨#[109]⟩,⟨#[109]⟩,⟨#[116]⟩,⟨#[101,116]⟩,⟨#[107,110]⟩,⟨#[107,116]⟩,⟨#[101]⟩]
def ajn:Array Value:=#[.string ⟨#[]⟩,.string ⟨#[114,101]⟩,.string ⟨#[114,99]⟩,.string ⟨#[99,101]⟩,.string ⟨#[114,99,101,102]⟩,.string ⟨#[108]⟩,.string ⟨#[108]⟩,.string ⟨#[]⟩,.string ⟨#[]⟩,.string ⟨#[109]⟩,.string ⟨#[109]⟩,.string ⟨#[116]⟩,.string ⟨#[101,116]⟩,.string ⟨#[107,110]⟩,.string ⟨#[107,116]⟩,.string ⟨#[101]⟩]
def hasB (k c:Int):Bool:=eo (ajm.getD k.toNat ⟨#[]⟩) c
theorem ot {k:Int} (h:1≤k∧k≤15):hasB k 114=decide (k=1∨k=2∨k=4)∧hasB k 107=decide (k=13∨k=14)∧hasB k 99=decide (k=2∨k=3∨k=4)∧hasB k 108=decide (k=5∨k=6)∧hasB k 109=decide (k=9∨k=10)∧hasB k 110=decide (k=13)∧hasB k 101=so k∧hasB k 102=decide (k=4)∧hasB k 116=decide (k=11∨k=12∨k=14):=by
 obtain rfl | rfl | rfl | rfl | rfl | rfl | rfl | rfl | rfl | rfl | rfl | rfl | rfl | rfl | rfl:k=1∨k=2∨k=3∨k=4∨k=5∨k=6∨k=7∨k=8∨k=9∨k=10∨k=11∨k=12∨k=13∨k=14∨k=15:=by omega
 all_goals decide
def k14 (l:List aW) (i:Nat):Bool:=match l[i]? with | some x=>decide (x.kind=14) | none=>false
def ou (l:List aW) (k:Nat):List Int:=((List.range k).filter (k14 l)).map (fun (n:Nat)=>(n:Int))
theorem GQ (l:List aW) (k:Nat):(ou l k).length≤k:=by
 unfold ou
 rw [List.length_map]
 have:=List.length_filter_le (k14 l) (List.range k)
 rw [List.length_range] at this; exact this
theorem V8 {l:List aW} {k:Nat} {x:aW} (h:l[k]? = some x) (hk:¬ x.kind=14):ou l k=ou l (k+1):=by
 have:k14 l k=false:=by unfold k14; rw [h]; exact decide_eq_false hk
 unfold ou; rw [List.range_succ,List.filter_append,List.filter_cons_of_neg (by rw [this]; decide),List.filter_nil,List.append_nil]
theorem Sa {l:List aW} {k:Nat} {x:aW} (h:l[k]? = some x) (hk:x.kind=14):ou l k++[(k:Int)]=ou l (k+1):=by
 have:k14 l k=true:=by unfold k14; rw [h]; exact decide_eq_true hk
 unfold ou; rw [List.range_succ,List.filter_append,List.filter_cons_of_pos this,List.filter_nil,List.map_append]; rfl
theorem Sb {l:List aW} {k:Nat} {e:Int} (h:e∈ou l k):∃ j:Nat,e=j∧j<k∧∃ y,l[j]? = some y∧y.kind=14:=by
 unfold ou at h
 obtain ⟨j,hj,rfl⟩:=List.mem_map.1 h
 obtain ⟨h1,h2⟩:=List.mem_filter.1 hj
 refine ⟨j,rfl,List.mem_range.1 h1,?_⟩
 unfold k14 at h2
 cases hy:l[j]? with
 | none=>rw [hy] at h2; cases h2
 | some y=>rw [hy] at h2; exact ⟨y,rfl,of_decide_eq_true h2⟩
theorem V9 {l:List aW} {k:Nat} {x:aW} (h:∀ e∈ou l k,u3 l x e.toNat=false):(List.range k).any (u3 l x)=false:=by
 refine m6 λ j hj=>?_
 cases hy:l[j]? with
 | none=>unfold u3; rw [hy]
 | some y=>
  by_cases hk:y.kind=14
  ·exact h (j:Int) (List.mem_map.2 ⟨j,List.mem_filter.2 ⟨List.mem_range.2 hj,by unfold k14; rw [hy]; exact decide_eq_true hk⟩,rfl⟩)
  ·rw [z8 hy,decide_eq_false hk]; rfl
def afn (l:List aW):Prop:=∀ (i:Nat) (x:aW),l[i]? = some x→x.kind=14→1≤x.to∧x.to≤i
theorem List.fq {α:Type} {l l':List α} {f g:α→Bool} (h:l=l') (h2:∀ x,f x=g x):l.any f=l'.any g:=by subst h; rw [funext h2]
theorem C178 (w:World):CR 178 [] w (λ v w'=>v = .agg ajn∧Ext w w'):=by
 have hs:=St.start w;refine ZQ _ _ ?_;unfold S178;refine aN hs abk (λ avN w1 hs=>pop (lV _ _ _ _ _ _ _ _ _ _ _ _ _) (pn hs aeO rfl (by decide) (by simp [rN,gV]) (λ w2 hs=>qO aeO hs.hb rfl ?_)));exact ⟨rfl,hs.drop.aF⟩
theorem C179 (p:Bool) (n many:Int) (w:World):CR 179 [.bool p,.int .i64 n,.int .i64 many] w (λ v w'=>v = .bool (if p=true then Lm n many else decide (n=0))∧Ext w w'):=by
 have hs:=St.start w;refine ZR _ _ _ _ _ ?_;unfold S179;refine bY (aX (λ gn=>?_) (λ gn=>?_))
 ·refine aH ?_;refine ⟨vb ?_,hs.aF⟩
  grind
 ·refine ⟨λ jv w'=>jv = .bool (Lm n many)∧St w bD [] w',?_,?_⟩
  ·refine dG (aC (λ jW=>?_) (λ jW=>?_))
   ·refine aR ?_;exact ⟨vb (by unfold Lm; grind),hs⟩
   ·exact ⟨vb (by unfold Lm; grind),hs⟩
  ·rintro _ w1 ⟨rfl,hs⟩ fy;refine ⟨vb ?_,hs.aF⟩
   grind
theorem C220 (sv:Value) (xs:List UInt8) (c:Int) (w:World) (hL:eI (λ _=>True) w sv xs) (hn:xs.length≤1048576):CR 220 [sv,.int .u8 c] w (λ v w'=>v = .int .i64 (uN (λ y=>decide (c=(y.toNat:Int))) xs)∧Ext w w'):=by
 have hs:=St.start w;refine aap _ _ _ _ ?_;unfold S220;refine aJ aeN (hL.ext hs.aF) ?_;refine ⟨λ m x w1=>∃ k:Nat,x = .int .i64 (k:Int)∧m=xs.length - k∧k≤xs.length∧(∀ y∈xs.take k,decide (c=(y.toNat:Int))=false)∧St w bD [] w1,⟨_,0,rfl,rfl,Nat.zero_le _,by simp,hs⟩,?_⟩;rintro m _ w1 ⟨k,rfl,rfl,hk,fS,hs⟩ fy;refine aR (aC (λ gu=>?_) (λ gu=>?_))
 ·obtain ⟨jj,dD⟩:=gx (xs) (i:=((k:Int)).toNat) (by omega);refine aQ aeN hL (by omega) dD (λ _ iN=>aD ty5 (iN.ext hs.aF) (nZ (aC (λ eA=>?_) (λ eA=>?_))))
  ·exact ⟨congrArg (Value.int .i64) (pd fS dD (decide_eq_true eA)).symm,hs.aF⟩
  ·refine aO (by omega) ?_;exact ⟨_,by omega,k+1,rfl,rfl,by omega,eC fS dD (decide_eq_false eA),hs⟩
 ·exact ⟨congrArg (Value.int .i64) (ko (by rw [List.take_of_length_le (by omega)] at fS; exact fS)).symm,hs.aF⟩
theorem C177 (sv:Value) (xs:List UInt8) (c:Int) (w:World) (hL:eI (λ _=>True) w sv xs) (hn:xs.length≤1048576):CR 177 [sv,.int .u8 c] w (λ v w'=>v = .bool (xs.any (λ y=>decide (c=(y.toNat:Int))))∧Ext w w'):=by
 have hs:=St.start w;refine ZP _ _ _ _ ?_;unfold S177;refine aZ anl hs (C220 _ _ _ _ (hL.ext hs.aF) (by omega)) (λ w1 he hs=>dG ?_);exact ⟨vb (n8 _ _),hs.aF⟩
theorem C176 (k c:Int) (b1:Nat) (Q:Bool) (w:World) (hc:Cell w b1 0 (.int .i64 k)) (hk:1≤k∧k≤15) (hQ:hasB k c=Q):CR 176 [.int .u8 c,.pointer (some ⟨b1,0,none⟩)] w (λ v w'=>v = .bool Q∧Ext w w'):=by
 have hs:=St.start w;refine ZO _ _ _ _ ?_;unfold S176;refine aA je (have hs:=hs.drew;cG bL (hc.ext hs.aF) (aZ amY hs (C178 _) (λ w1 he hs=>?_)));refine ⟨aG bL (hc.ext hs.aF),?_⟩;obtain rfl | rfl | rfl | rfl | rfl | rfl | rfl | rfl | rfl | rfl | rfl | rfl | rfl | rfl | rfl:k=1∨k=2∨k=3∨k=4∨k=5∨k=6∨k=7∨k=8∨k=9∨k=10∨k=11∨k=12∨k=13∨k=14∨k=15:=by omega
 ·refine pop (v:=.string ⟨#[114,101]⟩) (by kernel_rfl) (gW hs gH Tryz.underlying252 xy (λ xH w2 hs=>aZ qK hs (C177 _ _ _ _ (hs).eX (by rw [dY]; decide)) (λ w3 he hs=>?_)));have hs:=(hs).drop;refine ⟨vb ?_,hs.aF⟩;rw [← hQ];unfold hasB eo;exact List.fq rfl (λ y=>decide_eq_decide.2 eq_comm)
 ·refine pop (v:=.string ⟨#[114,99]⟩) (by kernel_rfl) (gW hs gH Tryz.underlying252 xy (λ xH w2 hs=>aZ qK hs (C177 _ _ _ _ (hs).eX (by rw [dY]; decide)) (λ w3 he hs=>?_)));have hs:=(hs).drop;refine ⟨vb ?_,hs.aF⟩;rw [← hQ];unfold hasB eo;exact List.fq rfl (λ y=>decide_eq_decide.2 eq_comm)
 ·refine pop (v:=.string ⟨#[99,101]⟩) (by kernel_rfl) (gW hs gH Tryz.underlying252 xy (λ xH w2 hs=>aZ qK hs (C177 _ _ _ _ (hs).eX (by rw [dY]; decide)) (λ w3 he hs=>?_)));have hs:=(hs).drop;refine ⟨vb ?_,hs.aF⟩;rw [← hQ];unfold hasB eo;exact List.fq rfl (λ y=>decide_eq_decide.2 eq_comm)
 ·refine pop (v:=.string ⟨#[114,99,101,102]⟩) (by kernel_rfl) (gW hs gH Tryz.underlying252 xy (λ xH w2 hs=>aZ qK hs (C177 _ _ _ _ (hs).eX (by rw [dY]; decide)) (λ w3 he hs=>?_)));have hs:=(hs).drop;refine ⟨vb ?_,hs.aF⟩;rw [← hQ];unfold hasB eo;exact List.fq rfl (λ y=>decide_eq_decide.2 eq_comm)
 ·refine pop (v:=.string ⟨#[108]⟩) (by kernel_rfl) (gW hs gH Tryz.underlying252 xy (λ xH w2 hs=>aZ qK hs (C177 _ _ _ _ (hs).eX (by rw [dY]; decide)) (λ w3 he hs=>?_)));have hs:=(hs).drop;refine ⟨vb ?_,hs.aF⟩;rw [← hQ];unfold hasB eo;exact List.fq rfl (λ y=>decide_eq_decide.2 eq_comm)
 ·refine pop (v:=.string ⟨#[108]⟩) (by kernel_rfl) (gW hs gH Tryz.underlying252 xy (λ xH w2 hs=>aZ qK hs (C177 _ _ _ _ (hs).eX (by rw [dY]; decide)) (λ w3 he hs=>?_)));have hs:=(hs).drop;refine ⟨vb ?_,hs.aF⟩;rw [← hQ];unfold hasB eo;exact List.fq rfl (λ y=>decide_eq_decide.2 eq_comm)
 ·refine pop (v:=.string ⟨#[]⟩) (by kernel_rfl) (gW hs gH Tryz.underlying252 xy (λ xH w2 hs=>aZ qK hs (C177 _ _ _ _ (hs).eX (by rw [dY]; decide)) (λ w3 he hs=>?_)));have hs:=(hs).drop;refine ⟨vb ?_,hs.aF⟩;rw [← hQ];unfold hasB eo;exact List.fq rfl (λ y=>decide_eq_decide.2 eq_comm)
 ·refine pop (v:=.string ⟨#[]⟩) (by kernel_rfl) (gW hs gH Tryz.underlying252 xy (λ xH w2 hs=>aZ qK hs (C177 _ _ _ _ (hs).eX (by rw [dY]; decide)) (λ w3 he hs=>?_)));have hs:=(hs).drop;refine ⟨vb ?_,hs.aF⟩;rw [← hQ];unfold hasB eo;exact List.fq rfl (λ y=>decide_eq_decide.2 eq_comm)
 ·refine pop (v:=.string ⟨#[109]⟩) (by kernel_rfl) (gW hs gH Tryz.underlying252 xy (λ xH w2 hs=>aZ qK hs (C177 _ _ _ _ (hs).eX (by rw [dY]; decide)) (λ w3 he hs=>?_)));have hs:=(hs).drop;refine ⟨vb ?_,hs.aF⟩;rw [← hQ];unfold hasB eo;exact List.fq rfl (λ y=>decide_eq_decide.2 eq_comm)
 ·refine pop (v:=.string ⟨#[109]⟩) (by kernel_rfl) (gW hs gH Tryz.underlying252 xy (λ xH w2 hs=>aZ qK hs (C177 _ _ _ _ (hs).eX (by rw [dY]; decide)) (λ w3 he hs=>?_)));have hs:=(hs).drop;refine ⟨vb ?_,hs.aF⟩;rw [← hQ];unfold hasB eo;exact List.fq rfl (λ y=>decide_eq_decide.2 eq_comm)
 ·refine pop (v:=.string ⟨#[116]⟩) (by kernel_rfl) (gW hs gH Tryz.underlying252 xy (λ xH w2 hs=>aZ qK hs (C177 _ _ _ _ (hs).eX (by rw [dY]; decide)) (λ w3 he hs=>?_)));have hs:=(hs).drop;refine ⟨vb ?_,hs.aF⟩;rw [← hQ];unfold hasB eo;exact List.fq rfl (λ y=>decide_eq_decide.2 eq_comm)
 ·refine pop (v:=.string ⟨#[101,116]⟩) (by kernel_rfl) (gW hs gH Tryz.underlying252 xy (λ xH w2 hs=>aZ qK hs (C177 _ _ _ _ (hs).eX (by rw [dY]; decide)) (λ w3 he hs=>?_)));have hs:=(hs).drop;refine ⟨vb ?_,hs.aF⟩;rw [← hQ];unfold hasB eo;exact List.fq rfl (λ y=>decide_eq_decide.2 eq_comm)
 ·refine pop (v:=.string ⟨#[107,110]⟩) (by kernel_rfl) (gW hs gH Tryz.underlying252 xy (λ xH w2 hs=>aZ qK hs (C177 _ _ _ _ (hs).eX (by rw [dY]; decide)) (λ w3 he hs=>?_)));have hs:=(hs).drop;refine ⟨vb ?_,hs.aF⟩;rw [← hQ];unfold hasB eo;exact List.fq rfl (λ y=>decide_eq_decide.2 eq_comm)
 ·refine pop (v:=.string ⟨#[107,116]⟩) (by kernel_rfl) (gW hs gH Tryz.underlying252 xy (λ xH w2 hs=>aZ qK hs (C177 _ _ _ _ (hs).eX (by rw [dY]; decide)) (λ w3 he hs=>?_)));have hs:=(hs).drop;refine ⟨vb ?_,hs.aF⟩;rw [← hQ];unfold hasB eo;exact List.fq rfl (λ y=>decide_eq_decide.2 eq_comm)
 ·refine pop (v:=.string ⟨#[101]⟩) (by kernel_rfl) (gW hs gH Tryz.underlying252 xy (λ xH w2 hs=>aZ qK hs (C177 _ _ _ _ (hs).eX (by rw [dY]; decide)) (λ w3 he hs=>?_)));have hs:=(hs).drop;refine ⟨vb ?_,hs.aF⟩;rw [← hQ];unfold hasB eo;exact List.fq rfl (λ y=>decide_eq_decide.2 eq_comm)
theorem C185 (sv fv:Value) (xs:List Int) (g:Int→Bool) (w:World) (hL:eI (λ _=>True) w sv xs) (hf:Ce w fv g) (hn:xs.length≤1073741824):CR 185 [sv,fv] w (λ v w'=>v = .int .i64 (uN g xs)∧Ext w w'):=by
 obtain ⟨g0,first,cap,rfl,vf,lQ⟩:=hf;have hs:=St.start w;refine ZX _ _ _ _ ?_;unfold S185;refine aJ ee (hL.ext hs.aF) ?_;refine ⟨λ m x w1=>∃ k:Nat,x = .int .i64 (k:Int)∧m=xs.length - k∧k≤xs.length∧(∀ y∈xs.take k,g y=false)∧St w bD [] w1,⟨_,0,rfl,rfl,Nat.zero_le _,by simp,hs⟩,?_⟩;rintro m _ w1 ⟨k,rfl,rfl,hk,fS,hs⟩ fy;refine aR (aC (λ gu=>?_) (λ gu=>?_))
 ·obtain ⟨jj,dD⟩:=gx (xs) (i:=((k:Int)).toNat) (by omega);refine aQ ee hL (by omega) dD (λ _ iN=>aD bL (iN.ext hs.aF) (ga vf (lQ jj w1 hs.aF) ?_));rintro _ w2 ⟨rfl,he⟩;have hs:=hs.ext he;refine aX (λ eA=>?_) (λ eA=>?_)
  ·exact ⟨congrArg (Value.int .i64) (pd fS dD eA).symm,hs.aF⟩
  ·refine aO (by omega) ?_;exact ⟨_,by omega,k+1,rfl,rfl,by omega,eC fS dD eA,hs⟩
 ·exact ⟨congrArg (Value.int .i64) (ko (by rw [List.take_of_length_le (by omega)] at fS; exact fS)).symm,hs.aF⟩
theorem C186 (sv fv:Value) (xs:List fm) (φ:fm→Prop) (g:fm→Bool) (w:World) (hL:DL w sv xs) (hf:n7 PG w fv φ g) (hφ:∀ x∈xs,φ x) (hn:xs.length≤1073741824):CR 186 [sv,fv] w (λ v w'=>v = .int .i64 (uN g xs)∧Ext w w'):=by
 obtain ⟨g0,first,cap,rfl,vf,lQ⟩:=hf;have hs:=St.start w;refine ZY _ _ _ _ ?_;unfold S186;obtain ⟨axO,ap0,ap1⟩:=(hL).open;have hn98:=ap1.1;refine aJ AY (ap0.ext hs.aF) ?_;refine ⟨λ m x w1=>∃ k:Nat,x = .int .i64 (k:Int)∧m=xs.length - k∧k≤xs.length∧(∀ y∈xs.take k,g y=false)∧St w bD [] w1,⟨_,0,rfl,rfl,Nat.zero_le _,by simp,hs⟩,?_⟩;rintro m _ w1 ⟨k,rfl,rfl,hk,fS,hs⟩ fy;refine aR (aC (λ gu=>?_) (λ gu=>?_))
 ·obtain ⟨jj,dD⟩:=gx axO (i:=((k:Int)).toNat) (by omega);obtain ⟨BU,jR⟩:=gx (xs) (i:=((k:Int)).toNat) (by omega);obtain ⟨acP,rfl,acQ⟩:=ap1.2 _ _ _ dD jR;refine aQ AY ap0 (by omega) dD (λ _ iN=>aD pS (iN.ext hs.aF) (ga vf (lQ _ BU w1 hs.aF ⟨acP,rfl,(acQ.ext hs.aF)⟩ (hφ _ (List.mem_of_getElem? jR))) ?_));rintro _ w2 ⟨rfl,he⟩;have hs:=hs.ext he;refine aX (λ eA=>?_) (λ eA=>?_)
  ·exact ⟨congrArg (Value.int .i64) (pd fS jR eA).symm,hs.aF⟩
  ·refine aO (by omega) ?_;exact ⟨_,by omega,k+1,rfl,rfl,by omega,eC fS jR eA,hs⟩
 ·exact ⟨congrArg (Value.int .i64) (ko (by rw [List.take_of_length_le (by omega)] at fS; exact fS)).symm,hs.aF⟩
theorem C187 (sv fv:Value) (xs:List (List nk)) (φ:(List nk)→Prop) (g:(List nk)→Bool) (w:World) (hL:DL w sv xs) (hf:n7 PG w fv φ g) (hφ:∀ x∈xs,φ x) (hn:xs.length≤1073741824):CR 187 [sv,fv] w (λ v w'=>v = .int .i64 (uN g xs)∧Ext w w'):=by
 obtain ⟨g0,first,cap,rfl,vf,lQ⟩:=hf;have hs:=St.start w;refine ZZ _ _ _ _ ?_;unfold S187;obtain ⟨xF,ap2,FJ⟩:=(hL).open;have ao5:=FJ.1;refine aJ FA (ap2.ext hs.aF) ?_;refine ⟨λ m x w1=>∃ k:Nat,x = .int .i64 (k:Int)∧m=xs.length - k∧k≤xs.length∧(∀ y∈xs.take k,g y=false)∧St w bD [] w1,⟨_,0,rfl,rfl,Nat.zero_le _,by simp,hs⟩,?_⟩;rintro m _ w1 ⟨k,rfl,rfl,hk,fS,hs⟩ fy;refine aR (aC (λ gu=>?_) (λ gu=>?_))
 ·obtain ⟨jj,dD⟩:=gx xF (i:=((k:Int)).toNat) (by omega);obtain ⟨BU,jR⟩:=gx (xs) (i:=((k:Int)).toNat) (by omega);have afo:DL w (Flat.val jj) BU:=FJ.2 _ _ _ dD jR;refine aQ FA ap2 (by omega) dD (λ _ iN=>aD xA (iN.ext hs.aF) ?_);have hf100:=DL.flat (afo);refine ga vf (lQ _ BU w1 hs.aF (afo.ext hs.aF) (hφ _ (List.mem_of_getElem? jR))) ?_;rintro _ w2 ⟨rfl,he⟩;have hs:=hs.ext he;refine aX (λ eA=>?_) (λ eA=>?_)
  ·exact ⟨congrArg (Value.int .i64) (pd fS jR eA).symm,hs.aF⟩
  ·refine aO (by omega) ?_;exact ⟨_,by omega,k+1,rfl,rfl,by omega,eC fS jR eA,hs⟩
 ·exact ⟨congrArg (Value.int .i64) (ko (by rw [List.take_of_length_le (by omega)] at fS; exact fS)).symm,hs.aF⟩
theorem C249 (sv fv:Value) (xs:List aW) (φ:aW→Prop) (g:aW→Bool) (w:World) (hL:DL w sv xs) (hf:n7 PG w fv φ g) (hφ:∀ x∈xs,φ x) (hn:xs.length≤1073741824):CR 249 [sv,fv] w (λ v w'=>v = .int .i64 (uN g xs)∧Ext w w'):=by
 obtain ⟨g0,first,cap,rfl,vf,lQ⟩:=hf;have hs:=St.start w;refine aaR _ _ _ _ ?_;unfold S249;obtain ⟨ap3,afp,afq⟩:=(hL).open;have hn101:=afq.1;refine aJ kK (afp.ext hs.aF) ?_;refine ⟨λ m x w1=>∃ k:Nat,x = .int .i64 (k:Int)∧m=xs.length - k∧k≤xs.length∧(∀ y∈xs.take k,g y=false)∧St w bD [] w1,⟨_,0,rfl,rfl,Nat.zero_le _,by simp,hs⟩,?_⟩;rintro m _ w1 ⟨k,rfl,rfl,hk,fS,hs⟩ fy;refine aR (aC (λ gu=>?_) (λ gu=>?_))
 ·obtain ⟨jj,dD⟩:=gx ap3 (i:=((k:Int)).toNat) (by omega);obtain ⟨BU,jR⟩:=gx (xs) (i:=((k:Int)).toNat) (by omega);obtain ⟨acR,acS,rfl,acT,acU⟩:=afq.2 _ _ _ dD jR;refine aQ kK afp (by omega) dD (λ _ iN=>aD lG (iN.ext hs.aF) (ga vf (lQ _ BU w1 hs.aF ⟨acR,acS,rfl,(acT.ext hs.aF),(acU.ext hs.aF)⟩ (hφ _ (List.mem_of_getElem? jR))) ?_));rintro _ w2 ⟨rfl,he⟩;have hs:=hs.ext he;refine aX (λ eA=>?_) (λ eA=>?_)
  ·exact ⟨congrArg (Value.int .i64) (pd fS jR eA).symm,hs.aF⟩
  ·refine aO (by omega) ?_;exact ⟨_,by omega,k+1,rfl,rfl,by omega,eC fS jR eA,hs⟩
 ·exact ⟨congrArg (Value.int .i64) (ko (by rw [List.take_of_length_le (by omega)] at fS; exact fS)).symm,hs.aF⟩
theorem C117 (sv fv:Value) (xs:List Int) (g:Int→Bool) (w:World) (hL:eI (λ _=>True) w sv xs) (hf:Ce w fv g) (hn:xs.length≤1073741824):CR 117 [sv,fv] w (λ v w'=>v = .bool (xs.any g)∧Ext w w'):=by
 have hs:=St.start w;refine Y5 _ _ _ _ ?_;unfold S117;refine aZ am4 hs (C185 _ _ _ _ _ (hL.ext hs.aF) (hf.ext hs.aF) (by omega)) (λ w1 he hs=>dG ?_);exact ⟨vb (n8 _ _),hs.aF⟩
theorem C118 (sv fv:Value) (xs:List fm) (φ:fm→Prop) (g:fm→Bool) (w:World) (hL:DL w sv xs) (hf:n7 PG w fv φ g) (hφ:∀ x∈xs,φ x) (hn:xs.length≤1073741824):CR 118 [sv,fv] w (λ v w'=>v = .bool (xs.any g)∧Ext w w'):=by
 have hs:=St.start w;refine Y6 _ _ _ _ ?_;unfold S118;refine aZ am5 hs (C186 _ _ _ _ _ _ (hL.ext hs.aF) (hf.ext hs.aF) hφ (by omega)) (λ w1 he hs=>dG ?_);exact ⟨vb (n8 _ _),hs.aF⟩
theorem C119 (sv fv:Value) (xs:List (List nk)) (φ:(List nk)→Prop) (g:(List nk)→Bool) (w:World) (hL:DL w sv xs) (hf:n7 PG w fv φ g) (hφ:∀ x∈xs,φ x) (hn:xs.length≤1073741824):CR 119 [sv,fv] w (λ v w'=>v = .bool (xs.any g)∧Ext w w'):=by
 have hs:=St.start w;refine Y7 _ _ _ _ ?_;unfold S119;refine aZ am6 hs (C187 _ _ _ _ _ _ (hL.ext hs.aF) (hf.ext hs.aF) hφ (by omega)) (λ w1 he hs=>dG ?_);exact ⟨vb (n8 _ _),hs.aF⟩
theorem C221 (sv fv:Value) (xs:List aW) (φ:aW→Prop) (g:aW→Bool) (w:World) (hL:DL w sv xs) (hf:n7 PG w fv φ g) (hφ:∀ x∈xs,φ x) (hn:xs.length≤1073741824):CR 221 [sv,fv] w (λ v w'=>v = .bool (xs.any g)∧Ext w w'):=by
 have hs:=St.start w;refine aaq _ _ _ _ ?_;unfold S221;refine aZ anG hs (C249 _ _ _ _ _ _ (hL.ext hs.aF) (hf.ext hs.aF) hφ (by omega)) (λ w1 he hs=>dG ?_);exact ⟨vb (n8 _ _),hs.aF⟩
theorem uf {x:aW} {c:fm} {cells lines locks:Int} (h:1≤x.kind∧x.kind≤15):uY x c cells lines locks=(aM x c.aK c.counts && bM x cells lines locks && (if so x.kind=true then eK x.e c.aK else !decide (0<(x.e.length:Int))) && (if x.kind=4 then eK x.f c.aK else !decide (0<(x.f.length:Int)))):=by
 unfold uY efM
 rw [decide_eq_true h.1,decide_eq_true h.2]
 cases aM x c.aK c.counts <;> cases bM x cells lines locks <;> simp
theorem Wa {x:aW} {c:fm} {cells lines locks:Int} (h:¬ (1≤x.kind∧x.kind≤15)):uY x c cells lines locks=false:=by
 unfold uY
 by_cases h1:1≤x.kind
 ·rw [decide_eq_false (show ¬ x.kind≤15 by omega)]; simp
 ·rw [decide_eq_false h1]; simp
theorem C222 (y:aW) (yv:bU) (b1:Nat) (a:Int) (w:World) (hy:cA.dr w yv y) (hc:Cell w b1 1 (.int .i64 a)):CR 222 [Flat.val yv,.pointer (some ⟨b1,0,none⟩)] w (λ v w'=>v = .bool (sq y a)∧Ext w w'):=by
 obtain ⟨ap4,ap5,rfl,d_e_y,d_f_y⟩:=hy;have hs:=St.start w;refine aar _ _ _ _ ?_;unfold S222;refine dE hs (λ axP w1 hs=>?_);refine ⟨λ jv w'=>jv = .bool (sq y a)∧St w bD [cD axP (Flat.enc (⟨(y).kind,(y).a,(y).b,ap4,ap5,(y).to⟩:bU))] w',?_,?_⟩
 ·refine aA je (aB (v:=.int .i64 ((y).kind)) bL hs.hb rfl (aH (aC (λ pD=>?_) (λ pD=>?_))))
  ·refine aA kh (aB (v:=.int .i64 ((y).a)) bL hs.hb rfl (aA kh (cG bL (hc.ext hs.aF) (aH ?_))));exact ⟨vb (by unfold sq; grind),hs⟩
  ·exact ⟨vb (by unfold sq; grind),hs⟩
 ·rintro _ w2 ⟨rfl,hs⟩ fy;exact ⟨rfl,hs.drop.aF⟩
theorem C180 (lv:Value) (xs:List aW) (i:Nat) (x:aW) (w:World) (hL:DL w lv xs) (hn:xs.length≤1048576) (hx:xs[i]? = some x):CR 180 [lv,.int .i64 (i:Int)] w (λ v w'=>v = .bool (BT xs i x)∧Ext w w'):=by
 have hi:=(List.getElem?_eq_some_iff.1 hx).1;have hs:=St.start w;refine ZS _ _ _ _ ?_;unfold S180;obtain ⟨afr,Lp,Qv⟩:=(hL).open;have hn102:=Qv.1;obtain ⟨e_x8,afs⟩:=gx afr (i:=((i:Int)).toNat) (by omega);obtain ⟨sT,afu⟩:=gx (xs) (i:=((i:Int)).toNat) (by omega);obtain ⟨Wb,Wc,rfl,axQ,axR⟩:=Qv.2 _ _ _ afs afu;refine aQ kK Lp (by omega) afs (λ _ axS=>?_);obtain rfl:sT=x:=Option.some.inj (afu.symm.trans hx);refine aD lG (axS.ext hs.aF) (aN hs mn (λ ua w1 hs=>have hs:=hs.enc (cs':=Flat.enc (⟨0,0,0,⟨none,0,0⟩,⟨none,0,0⟩,0⟩:bU)) rfl;aI (x:=(⟨(sT).kind,(sT).a,(sT).b,Wb,Wc,(sT).to⟩:bU)) hs lG rfl rfl (λ w2 hs=>?_)))
 refine ⟨λ jv w'=>jv = .bool (!btM xs i sT)∧St w bD [cD ua (Flat.enc (⟨(sT).kind,(sT).a,(sT).b,Wb,Wc,(sT).to⟩:bU))] w',?_,?_⟩
 ·refine aA ki (have hs:=hs.drew;aB (v:=.int .i64 ((sT).to)) bL hs.hb rfl (aR (aC (λ jW=>?_) (λ jW=>?_))))
  ·exact ⟨vb (by first | (rw [Ln (by omega)]; rfl) | (rw [V5 (by omega) (by omega) wv]; unfold sq; first | grind | simp_all)),hs⟩
  ·refine aA ki (aB (v:=.int .i64 ((sT).to)) bL hs.hb rfl (cZ (aC (λ lZ=>?_) (λ lZ=>?_))))
   ·exact ⟨vb (by first | (rw [Ln (by omega)]; rfl) | (rw [V5 (by omega) (by omega) wv]; unfold sq; first | grind | simp_all)),hs⟩
   ·refine aA ki (aB (v:=.int .i64 ((sT).to)) bL hs.hb rfl (gy (by omega) ?_));obtain ⟨gQ,iq⟩:=gx afr (i:=(((sT).to - 1)).toNat) (by omega);obtain ⟨BV,wv⟩:=gx (xs) (i:=(((sT).to - 1)).toNat) (by omega);obtain ⟨asV,asW,rfl,asX,asY⟩:=Qv.2 _ _ _ iq wv;refine aQ kK Lp (by omega) iq (λ _ vY=>bP (BV).kind je vY rfl rfl (λ _ ud=>aD bL (ud.ext hs.aF) (cS (aC (λ gh=>?_) (λ gh=>?_)))))
    ·exact ⟨vb (by first | (rw [Ln (by omega)]; rfl) | (rw [V5 (by omega) (by omega) wv]; unfold sq; first | grind | simp_all)),hs⟩
    ·refine aA ki (aB (v:=.int .i64 ((sT).to)) bL hs.hb rfl (gy (by omega) (aQ kK Lp (by omega) iq (λ _ rp=>bP (BV).a kh rp rfl rfl (λ _ zG=>aD bL (zG.ext hs.aF) (aA kh (aB (v:=.int .i64 ((sT).a)) bL hs.hb rfl (cS ?_))))))));exact ⟨vb (by first | (rw [Ln (by omega)]; rfl) | (rw [V5 (by omega) (by omega) wv]; unfold sq; first | grind | simp_all)),hs⟩
 ·rintro _ w3 ⟨rfl,hs⟩ fy;refine aX (λ oC=>?_) (λ oC=>?_)
  ·refine ⟨vb ?_,hs.drop.aF⟩;exact (V7 (by simpa using oC)).symm
  ·have ND:btM xs i sT=true:=by simpa using oC
   have hto:=apZ ND;refine aA ki (aB (v:=.int .i64 ((sT).to)) bL hs.hb rfl (kn kK (Lp.ext hs.aF) (by omega) (by omega) (by omega) (λ Wd NX=>?_)));have IH:=DL.cut NX Lp Qv
   have Km:n7 PG _ (.func (.func 222) [].toArray [.pointer (some ⟨ua,0,none⟩)].toArray) (λ _:aW=>True) (λ y=>sq y sT.a):=
    ⟨222,[],_,rfl,ann,λ s y w1 e1 hd _=>C222 y s ua sT.a w1 hd ((hs.hb.cell rfl).ext e1)⟩
   refine aZ anm hs (C221 _ _ _ (λ _=>True) _ _ (IH.ext hs.aF) Km (λ _ _=>trivial) (by simp; omega)) (λ w4 he hs=>bY ?_);refine ⟨vb ?_,hs.drop.aF⟩;unfold BT;rw [ND];simp only [Bool.true_and]
   congr 2
set_option maxHeartbeats 4000000 in
theorem C181 (lv:Value) (xs:List aW) (w:World) (hL:DL w lv xs) (hn:xs.length≤1048576) (hb:afn xs):CR 181 [lv] w (λ v w'=>v = .bool (!(List.range xs.length).any (qw xs))∧Ext w w'):=by
 have hs:=St.start w;refine ZT _ _ _ ?_;unfold S181;obtain ⟨afv,We,Wf⟩:=(hL).open;have hn103:=Wf.1;refine aJ kK (We.ext hs.aF) ?_;have hs:=hs.fX (α:=Int);refine ⟨λ m ze x w1=>∃ k:Nat,x = .int .i64 (k:Int)∧m=xs.length - k∧k≤xs.length∧(∀ j,j<k→qw xs j=false)∧St w bD [bK ze (ou xs k)] w1,⟨_,0,rfl,rfl,Nat.zero_le _,by simp,hs⟩,?_⟩;rintro m ze _ w1 ⟨k,rfl,rfl,hk,fS,hs⟩ fy;have hel:=GQ xs k;refine aR (aC (λ kF=>?_) (λ kF=>?_))
 ·obtain ⟨pG,jQ⟩:∃ xx,afv[((k:Int)).toNat]? = some xx:=⟨_,List.getElem?_eq_getElem (by omega)⟩;obtain ⟨mA,oS⟩:∃ xx,(xs)[((k:Int)).toNat]? = some xx:=⟨_,List.getElem?_eq_getElem (by omega)⟩;obtain ⟨II,IJ,rfl,asZ,as0⟩:=Wf.2 _ _ _ jQ oS;refine ⟨λ Cv w'=>qw xs k=false∧St w bD [bK Cv (ou xs (k+1))] w',?_,?_⟩
  ·refine aQ kK We (by omega) jQ (λ _ qX=>aD lG (qX.ext hs.aF) (aN hs mn (λ ua w2 hs=>have hs:=hs.enc (cs':=Flat.enc (⟨0,0,0,⟨none,0,0⟩,⟨none,0,0⟩,0⟩:bU)) rfl;aI (x:=(⟨(mA).kind,(mA).a,(mA).b,II,IJ,(mA).to⟩:bU)) hs lG rfl rfl (λ w3 hs=>aA je (aB (v:=.int .i64 ((mA).kind)) bL hs.hb rfl (cS (aC (λ fu=>?_) (λ fu=>?_))))))))
   ·have hs:=(hs).drop;rw [V8 (k:=k) oS (by omega)] at hs;exact ⟨by rw [xi (i:=k) oS,decide_eq_false (show ¬ mA.kind=14 by omega)]; rfl,hs⟩
   ·have hto:=hb k mA oS (by omega);refine aA ki (aB (v:=.int .i64 ((mA).to)) bL hs.hb rfl (gy (by omega) (aJ ee (hs.p1).fK ?_)));have hs:=hs.p1.p1;refine ⟨λ m x w1=>∃ q:Nat,x = .int .i64 (q:Int)∧m=(ou xs k).length - q∧q≤(ou xs k).length∧(∀ e∈(ou xs k).take q,u3 xs mA e.toNat=false)∧St w bD [cD ua (Flat.enc (⟨(mA).kind,(mA).a,(mA).b,II,IJ,(mA).to⟩:bU)),bK ze (ou xs k)] w1,⟨_,0,rfl,rfl,Nat.zero_le _,by simp,hs⟩,?_⟩;rintro m _ w4 ⟨q,rfl,rfl,hq,ajo,hs⟩ jw;refine aR (aC (λ si=>?_) (λ si=>?_))
    ·obtain ⟨afw,NY⟩:=gx ((ou xs k)) (i:=((q:Int)).toNat) (by omega);refine dS hs.p1 ee (by omega) (by omega) (λ _ v9=>?_);obtain ⟨j,hej,hjk,y,hy,ajq⟩:=Sb (List.mem_of_getElem? NY);have hjl:=(List.getElem?_eq_some_iff.1 hy).1;have hyto:=hb j y hy ajq;refine gj hs.p1 bL v9 NY ?_;obtain ⟨ap6,Bn⟩:=gx afv (i:=(afw).toNat) (by omega);obtain ⟨afx,Wg⟩:=gx (xs) (i:=(afw).toNat) (by omega);obtain ⟨as1,as2,rfl,as3,as4⟩:=Wf.2 _ _ _ Bn Wg;refine aQ kK We (by omega) Bn (λ _ oD=>bP (afx).to ki oD rfl rfl (λ _ zS=>aD bL (zS.ext hs.aF) ?_))
     obtain rfl:afx=y:=Option.some.inj (Wg.symm.trans (by rw [hej]; exact hy));refine gy (by omega) ?_;refine ⟨λ jv w'=>jv = .bool (u3 xs mA j)∧St w bD [cD ua (Flat.enc (⟨(mA).kind,(mA).a,(mA).b,II,IJ,(mA).to⟩:bU)),bK ze (ou xs k)] w',?_,?_⟩
     ·refine aR (aC (λ tU=>?_) (λ tU=>?_))
      ·refine dG ?_;exact ⟨vb (by rw [z8 hy,decide_eq_true ajq]; grind),hs⟩
      ·exact ⟨vb (by rw [z8 hy,decide_eq_true ajq]; grind),hs⟩
     ·rintro _ w5 ⟨rfl,hs⟩ oN;refine aX (λ mB=>?_) (λ mB=>?_)
      ·have hs:=((hs.drop)).drop;refine ⟨vb ?_,hs.aF⟩;rw [rh (f:=qw xs) (j:=k) (by omega) (by rw [xi (i:=k) oS,decide_eq_true (show mA.kind=14 by omega)]; exact rh (j:=j) hjk mB)]; rfl
      ·refine aO (by omega) ?_;exact ⟨_,by omega,q+1,rfl,rfl,by omega,eC ajo NY (by rw [hej]; exact mB),hs⟩
    ·refine bW (([(k:Int)]:List Int)) hs ee rfl rfl (eF rfl) (λ ap7 w6 hs=>?_);have EE:=(hs).fK;refine cN hs.p2 ee EE (by have:=GQ xs k; simp; omega) (by decide) (λ apL w7 hs=>?_);have hs:=hs.p1.drop.p1.drop;rw [Sa (k:=k) oS (by omega)] at hs;exact ⟨by rw [xi (i:=k) oS,V9 (by rw [List.take_of_length_le (by omega)] at ajo; exact ajo)]; simp,hs⟩
  ·rintro Cv w8 ⟨Wh,hs⟩ GF;refine aO (by omega) ?_;exact ⟨_,by omega,k+1,rfl,rfl,by omega,zO fS Wh,hs⟩
 ·have hs:=(hs).drop;refine ⟨vb ?_,hs.aF⟩;rw [m6 (f:=qw xs) (λ j hj=>fS j (by omega))]; rfl
theorem C114 (u:im) (uv:dL) (w:World) (hu:cA.dr w uv u) (hz:UZ u) (hb:∀ n∈u.lines,-1≤n∧n≤(u.lines.length:Int)):CR 114 [Flat.val uv] w (λ v w'=>v = .int .i64 (gp u)∧Ext w w'):=by
 obtain ⟨iD,gG,eW,sr,fh,rfl,iE,jl,iY,jL,kR⟩:=hu;obtain ⟨dJ,rfl,ij⟩:=jL;have hs:=St.start w;refine Y0 _ _ _ ?_;unfold S114;refine dE hs (λ xI w1 hs=>?_);refine ⟨λ jv w'=>jv = .bool (decide (¬ (1≤u.stays∧u.stays≤u.lines.length)))∧St w bD [cD xI (Flat.enc (⟨iD,(u).stays,gG,(u).locks,eW,(⟨((u).recover).aK,((u).recover).counts,dJ⟩:cK),fh⟩:dL))] w',?_,?_⟩
 ·refine aA o9 (aB (v:=.int .i64 ((u).stays)) bL hs.hb rfl (aR (aC (λ UH=>?_) (λ UH=>?_))))
  ·exact ⟨vb (by grind),hs⟩
  ·refine aA o9 (aB (v:=.int .i64 ((u).stays)) bL hs.hb rfl (aA ml (aB en hs.hb rfl ?_)));have ap8:=DL.flat (iE);refine aJ ee (ap8.ext hs.aF) (cZ ?_);exact ⟨vb (by grind),hs⟩
 ·rintro _ w2 ⟨rfl,hs⟩ fy;refine aX (λ kF=>?_) (λ kF=>?_)
  ·have ajr:¬ (1≤u.stays∧u.stays≤u.lines.length):=of_decide_eq_true kF;exact ⟨congrArg (Value.int .i64) (by unfold gp; rw [if_neg ajr]),hs.drop.aF⟩
  ·have ajr:1≤u.stays∧u.stays≤u.lines.length:=by simpa using kF
   have hzl:=hz.lines;refine aA ml (aB en hs.hb rfl ?_);have ap9:=DL.flat (iE);refine aA o9 (aB (v:=.int .i64 ((u).stays)) bL hs.hb rfl (gy (by omega) ?_));obtain ⟨iX,fF⟩:=gx ((u).lines) (i:=(((u).stays - 1)).toNat) (by omega);refine aQ ee ap9 (by omega) fF (λ _ jI=>aD bL (jI.ext hs.aF) ?_);have hbe:=hb _ (List.mem_of_getElem? fF);refine aO (by omega) ?_;exact ⟨congrArg (Value.int .i64) (by unfold gp; rw [if_pos ajr,List.getD_eq_getElem?_getD,fF]; rfl),hs.drop.aF⟩
theorem C111 (n:Int) (w:World):CR 111 [.int .i64 n] w (λ v w'=>v = .bool (lr n)∧Ext w w'):=by
 have hs:=St.start w;refine YX _ _ _ ?_;unfold S111;refine ⟨λ jv w'=>jv = .bool (lr n)∧St w bD [] w',?_,?_⟩
 ·refine aR (aC (λ pH=>?_) (λ pH=>?_))
  ·exact ⟨vb (by unfold lr; grind),hs⟩
  ·refine cZ ?_;exact ⟨vb (by unfold lr; grind),hs⟩
 ·rintro _ w1 ⟨rfl,hs⟩ fy;exact ⟨rfl,hs.aF⟩
theorem C115 (lv:Value) (xs:List nk) (b1:Nat) (many:Int) (w:World) (hL:eI (λ _=>True) w lv xs) (hc:Cell w b1 1 (.int .i64 many)) (hn:xs.length≤1000):CR 115 [lv,.pointer (some ⟨b1,0,none⟩)] w (λ v w'=>v = .bool (!eK xs many)∧Ext w w'):=by
 have hs:=St.start w;refine Y3 _ _ _ _ ?_;unfold S115;refine aA o9 (cG bL (hc.ext hs.aF) (aZ Pd hs (C116 _ _ _ _ (hL.ext hs.aF) (by omega)) (λ w1 he hs=>bY ?_)));exact ⟨rfl,hs.aF⟩
end Go.Proofs.YtnjcingfdhjfkaaGreat

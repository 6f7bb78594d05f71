/-
  What the proof needs, part 4.
-/
import Derived.Test.YtnjcingfdhjfkaaGreatVaM3
set_option linter.all false
namespace Go.Proofs.YtnjcingfdhjfkaaGreat
open Go.Fw
theorem Bt {l:List dC} (h:jI l=true):∀ y∈l,0≤y.at_:=by
 intro y hy
 unfold jI at h
 have hn:l.any oY=false:=by grind
 rw [List.any_eq_false] at hn
 have:=hn y hy
 unfold oY at this
 grind
structure awM (x:cG):Prop where
 kind:1≤x.kind∧x.kind≤14
 TS:0≤x.at_∧x.at_≤4000
 e:(er (j8 x.kind) 101=true∧jI x.e=true)∨(er (j8 x.kind) 101=false∧x.e=[])
 f:(er (j8 x.kind) 102=true∧jI x.f=true)∨(er (j8 x.kind) 102=false∧x.f=[])
 gP:(er (j8 x.kind) 114=true∧j4 x.gP=true)∨(er (j8 x.kind) 114=false∧x.gP=⟨#[]⟩)
 name:(er (j8 x.kind) 110=true∧j4 x.name=true)∨(er (j8 x.kind) 110=false∧x.name=⟨#[]⟩)
 n:(er (j8 x.kind) 107=true∧1≤x.n∧x.n≤8)∨(er (j8 x.kind) 107=false∧x.n=0)
theorem Bu {x:cG} (h:rD x=true):awM x:=by
 unfold rD at h
 simp only [Bool.and_eq_true,Bool.not_eq_true',Bool.or_eq_false_iff,decide_eq_false_iff_not,bne_eq_false_iff_eq,Bool.and_eq_false_iff,Bool.not_eq_false',Decidable.not_not] at h
 obtain ⟨⟨⟨h1,h2⟩,h3⟩,h4⟩:=h
 constructor
 ·omega
 ·omega
 ·cases hh:er (j8 x.kind) 101 <;> grind
 ·cases hh:er (j8 x.kind) 102 <;> grind
 ·cases hh:er (j8 x.kind) 114 <;> grind
 ·cases hh:er (j8 x.kind) 110 <;> grind
 ·cases hh:er (j8 x.kind) 107 <;> grind
theorem ac5 {x:cG} (h:rD x=true):0≤x.at_∧(∀ y∈x.e,0≤y.at_)∧(∀ y∈x.f,0≤y.at_):=by
 have h:=Bu h
 refine ⟨h.TS.1,?_,?_⟩
 ·rcases h.e with h | h
  ·exact Bt h.2
  ·rw [h.2]; simp
 ·rcases h.f with h | h
  ·exact Bt h.2
  ·rw [h.2]; simp
theorem ajb:er (j8 12) 107=true:=by decide
theorem nJ {l:List cG} (h:ve l=true):l.length≤40∧(∀ x∈l,rD x=true)∧∃ t:Bk,l=t.flat∧t.str∧t.ok 0=true∧t.depth≤12:=by
 unfold ve at h
 simp only [Bool.and_eq_true,decide_eq_true_eq,Bool.not_eq_true'] at h
 obtain ⟨⟨h1,h2⟩,h3⟩:=h
 rw [List.any_eq_false] at h2
 refine ⟨h1,λ x hx=>by simpa using h2 x hx,?_⟩
 unfold gD at h3
 cases hb:oZ l with
 | none=>rw [hb] at h3; simp only [] at h3; omega
 | some t=>
  rw [hb] at h3
  obtain ⟨g1,g2⟩:=nz hb
  refine ⟨t,g1,g2,?_⟩
  cases ho:t.ok 0 with
  | true=>simp only [ho,if_true] at h3; exact ⟨rfl,h3.2⟩
  | false=>simp [ho] at h3
structure PF (p:cW):Prop where
 lines:∀ l∈p.lines,l≠[]∧∀ c∈l,nk 4294967296 c=false
 jV:∀ c∈p.jV,nk 4294967296 c=false
 locks:∀ c∈p.locks,nk 0 c=false
 th:∀ t∈p.threads,wA true t=false
 rc:∀ t∈p.recover,wA false t=false
 cl:∀ c∈p.cC,0≤c.at_∧jI c.e=true
 one:p.recover.length≤1
theorem wD {p:cW} (h:me p=true):PF p:=by
 unfold me tg oy at h
 simp only [Bool.and_eq_true,Bool.not_eq_true',List.any_eq_false,decide_eq_true_eq] at h
 obtain ⟨⟨h1,h2⟩,⟨⟨h3,h4⟩,h5⟩,h6⟩:=h
 refine ⟨λ l hl=>?_,λ c hc=>by simpa using h3.1 c hc,λ c hc=>by simpa using h3.2 c hc,λ t ht=>by simpa using h4 t ht,λ t ht=>by simpa using h5 t ht,λ c hc=>?_,h6⟩
 ·have:=h1 l hl
  unfold xw tg at this
  simp only [Bool.or_eq_true,decide_eq_true_eq,not_or,Bool.not_not,List.any_eq_true,not_exists,not_and,Bool.not_eq_true] at this
  exact ⟨λ h=>this.1 (by rw [h]; rfl),this.2⟩
 ·have:=h2 c hc
  unfold um vf at this
  simp only [Bool.or_eq_true,Bool.not_eq_true',not_or,Bool.not_eq_false,decide_eq_true_eq,decide_eq_false_iff_not,Decidable.not_not] at this
  exact ⟨this.1.1,by simpa using this.2⟩
theorem yT {nb:Bool} {t:dS} (h:wA nb t=false):0≤t.at_∧ve t.body=true∧(∀ s∈t.aN,j4 s=true)∧j4 t.name=nb:=by
 unfold wA vg vf at h
 simp only [Bool.or_eq_false_iff,Bool.not_eq_false',decide_eq_true_eq,List.any_eq_false,bne_eq_false_iff_eq] at h
 obtain ⟨⟨⟨⟨h1,_⟩,h2⟩,h3⟩,h4⟩:=h
 exact ⟨h2.1,h3,λ s hs=>by simpa using h4 s hs,h1.symm⟩
theorem rE {m:Int} {c:dI} (h:nk m c=false):0≤c.at_∧j4 c.name=true∧0≤c.n∧c.n≤m:=by
 unfold nk vf at h
 simp only [Bool.or_eq_false_iff,Bool.not_eq_false',decide_eq_true_eq,decide_eq_false_iff_not] at h
 exact ⟨by omega,h.1.1.1,by omega,by omega⟩
def iN (p:cW):List dS:=p.threads++p.recover
theorem PF.mP {p:cW} (h:PF p) {t:dS} (ht:t∈iN p):0≤t.at_∧ve t.body=true∧∀ s∈t.aN,j4 s=true:=by
 unfold iN at ht
 rcases List.mem_append.1 ht with ht | ht
 ·have:=yT (h.th t ht); exact ⟨this.1,this.2.1,this.2.2.1⟩
 ·have:=yT (h.rc t ht); exact ⟨this.1,this.2.1,this.2.2.1⟩
def pz (p:cW):List Int:=(gJ p).map dI.n
def eC (p:cW):Int:=(p.lines.flatten.length:Int)
theorem VG (p:cW):((gJ p).length:Int) - p.jV.length=eC p:=by unfold gJ eC; rw [List.length_append]; omega
def fe (p:cW):List ByteArray:=(gJ p).map dI.name
def g9 (p:cW):List ByteArray:=p.locks.map dI.name
def ix:List (List dI)→Int→Int→Int
 | [],i,a=>i+a
 | l::r,i,a=>if a<l.length then i else ix r (i+1) (a - l.length)
def mf (p:cW) (c:Int):Int:=if c<0∨(gJ p).length≤c then -1 else ix p.lines 0 c
def vD (l:List dC) (ns:List ByteArray):Bool:=l.any λ x=>decide (x.op=2) && decide (dQ ns x.name<0)
def sI (x:cG) (n:Int):Int:=if x.kind=12 then n * x.n else n
def oP:Bk→Int→Bool
 | .nil,_=>false
 | .cons x a b r,n=>decide (64<sI x n) || (oP a (sI x n) || oP b (sI x n)) || oP r n
def Bk.app:Bk→Bk→Bk
 | .nil,t=>t
 | .cons x a b r,t=>.cons x a b (r.app t)
theorem Bk.Ew (a b:Bk):(a.app b).flat=a.flat++b.flat:=by
 induction a with
 | nil=>rfl
 | cons x c d r _ _ ih=>simp only [Bk.app,Bk.flat,ih,List.cons_append,List.append_assoc]
theorem Bk.ac6 {a b:Bk} (ha:a.str) (hb:b.str):(a.app b).str:=by
 induction a with
 | nil=>exact hb
 | cons x c d r _ _ ih=>
  obtain ⟨h1,h2,h3,h4,h5,h6,h7⟩:=ha
  exact ⟨h1,h2,h3,h4,h5,h6,ih h7⟩
theorem Su (a b:Bk) (n:Int):oP (a.app b) n=(oP a n || oP b n):=by
 induction a with
 | nil=>simp [Bk.app,oP]
 | cons x c d r _ _ ih=>simp only [Bk.app,oP,ih,Bool.or_assoc]
def vE (l:List cG):Bool:=match oZ l with | some t=>oP t 1 | none=>false
theorem yU {t:Bk} (h:t.str):vE t.flat=oP t 1:=by unfold vE; rw [o0 h]
def jJ (p:cW):List dI:=gJ p++p.locks++p.threads.map (λ t=>⟨t.name,0,t.at_⟩)
def C1 (l:List dI) (j:Nat):Bool:=match l[j]? with | some c=>decide (dQ (l.map dI.name) c.name<j) | none=>false
def rF (l:List dI):Bool:=(List.range l.length).any (C1 l)
def QD (p:cW) (rs:List ByteArray) (j:Nat):Bool:=match rs[j]? with | some s=>decide (dQ rs s<j) || decide (0≤dQ (fe p) s) || decide (0≤dQ (g9 p) s) | none=>false
def F7 (p:cW) (rs:List ByteArray):Bool:=(List.range rs.length).any (QD p rs)
theorem ng {f:Nat→Bool} {n:Nat} (h:∀ j,j<n→f j=false):(List.range n).any f=false:=by
 rw [List.any_eq_false]; intro j hj; rw [h j (List.mem_range.1 hj)]; simp
theorem rG {f:Nat→Bool} {n j:Nat} (hj:j<n) (h:f j=true):(List.range n).any f=true:=List.any_eq_true.2 ⟨j,List.mem_range.2 hj,h⟩
theorem Ai {f:Nat→Bool} {k:Nat} (h:∀ j,j<k→f j=false) (hk:f k=false):∀ j,j<k+1→f j=false:=λ j hj=>by
 rcases Nat.lt_or_ge j k with h1 | h1
 ·exact h j h1
 ·obtain rfl:j=k:=by omega
  exact hk
def oA (p:cW) (rs:List ByteArray) (x:cG):Bool:=
 (decide (¬ x.gP=⟨#[]⟩) && decide (dQ rs x.gP<0)) ||
 ((decide (x.kind=2) || decide (x.kind=3) || decide (x.kind=4)) && decide (dQ (fe p) x.name<0)) ||
 ((decide (x.kind=5) || decide (x.kind=6)) && (decide (dQ (fe p) x.name<0) || decide (eC p≤dQ (fe p) x.name))) ||
 ((decide (x.kind=9) || decide (x.kind=10)) && decide (dQ (g9 p) x.name<0)) || vD x.e rs || vD x.f rs
def Aj (p:cW):Bool:=p.lines.any (λ l=>decide (4<(l.length:Int))) || (iN p).any (λ t=>decide (4<(t.aN.length:Int))) ||
 (decide (4<(p.lines.length:Int)) || decide (4<(p.jV.length:Int)) || decide (2<(p.locks.length:Int)) || decide ((p.threads.length:Int)<1) || decide (3<(p.threads.length:Int)) || decide (4<(p.cC.length:Int)))
def o7 (p:cW):List ByteArray:=(fe p).take (eC p).toNat
def gK (p:cW):Int:=
 if me p=false then 8 else if Aj p=true then 2 else if (iN p).any (λ t=>vE t.body)=true then 11 else if rF (jJ p)=true then 10
 else if (iN p).any (λ t=>F7 p t.aN)=true then 10 else if (iN p).any (λ t=>t.body.any (oA p t.aN))=true then 9
 else if p.cC.any (λ c=>vD c.e (o7 p))=true then 9 else 0
theorem NM {x:cG} (h:rD x=true):0≤x.at_∧(x.kind=12→1≤x.n∧x.n≤8):=by
 have h:=Bu h
 refine ⟨h.TS.1,λ hk=>?_⟩
 rcases h.n with h | h
 ·exact h.2
 ·rw [hk,ajb] at h; exact absurd h.1 (by decide)
section
variable {p:cW}
theorem ce8 (h1:me p=false):gK p=8:=by unfold gK; rw [if_pos h1]
theorem ce2 (h1:me p=true) (h2:Aj p=true):gK p=2:=by unfold gK; rw [if_neg (by rw [h1]; decide),if_pos h2]
theorem awN (h1:me p=true) (h2:Aj p=false) (h3:(iN p).any (λ t=>vE t.body)=true):gK p=11:=by unfold gK; rw [if_neg (by rw [h1]; decide),if_neg (by rw [h2]; decide),if_pos h3]
theorem awO (h1:me p=true) (h2:Aj p=false) (h3:(iN p).any (λ t=>vE t.body)=false) (h4:rF (jJ p)=true):gK p=10:=by
 unfold gK; rw [if_neg (by rw [h1]; decide),if_neg (by rw [h2]; decide),if_neg (by rw [h3]; decide),if_pos h4]
theorem apA (h1:me p=true) (h2:Aj p=false) (h3:(iN p).any (λ t=>vE t.body)=false) (h4:rF (jJ p)=false) (h5:(iN p).any (λ t=>F7 p t.aN)=true):gK p=10:=by
 unfold gK; rw [if_neg (by rw [h1]; decide),if_neg (by rw [h2]; decide),if_neg (by rw [h3]; decide),if_neg (by rw [h4]; decide),if_pos h5]
theorem ce9 (h1:me p=true) (h2:Aj p=false) (h3:(iN p).any (λ t=>vE t.body)=false) (h4:rF (jJ p)=false) (h5:(iN p).any (λ t=>F7 p t.aN)=false)
  (h6:(iN p).any (λ t=>t.body.any (oA p t.aN))=true):gK p=9:=by
 unfold gK; rw [if_neg (by rw [h1]; decide),if_neg (by rw [h2]; decide),if_neg (by rw [h3]; decide),if_neg (by rw [h4]; decide),if_neg (by rw [h5]; decide),if_pos h6]
theorem awP (h1:me p=true) (h2:Aj p=false) (h3:(iN p).any (λ t=>vE t.body)=false) (h4:rF (jJ p)=false) (h5:(iN p).any (λ t=>F7 p t.aN)=false)
  (h6:(iN p).any (λ t=>t.body.any (oA p t.aN))=false) (h7:p.cC.any (λ c=>vD c.e (o7 p))=true):gK p=9:=by
 unfold gK; rw [if_neg (by rw [h1]; decide),if_neg (by rw [h2]; decide),if_neg (by rw [h3]; decide),if_neg (by rw [h4]; decide),if_neg (by rw [h5]; decide),if_neg (by rw [h6]; decide),if_pos h7]
theorem ce0 (h1:me p=true) (h2:Aj p=false) (h3:(iN p).any (λ t=>vE t.body)=false) (h4:rF (jJ p)=false) (h5:(iN p).any (λ t=>F7 p t.aN)=false)
  (h6:(iN p).any (λ t=>t.body.any (oA p t.aN))=false) (h7:p.cC.any (λ c=>vD c.e (o7 p))=false):gK p=0:=by
 unfold gK; rw [if_neg (by rw [h1]; decide),if_neg (by rw [h2]; decide),if_neg (by rw [h3]; decide),if_neg (by rw [h4]; decide),if_neg (by rw [h5]; decide),if_neg (by rw [h6]; decide),if_neg (by rw [h7]; decide)]
theorem PF.decl (h:PF p):∀ c∈jJ p,0≤c.at_:=by
 intro c hc
 unfold jJ gJ at hc
 rcases List.mem_append.1 hc with hc | hc
 ·rcases List.mem_append.1 hc with hc | hc
  ·rcases List.mem_append.1 hc with hc | hc
   ·obtain ⟨l,hl,hc⟩:=List.mem_flatten.1 hc
    exact (rE ((h.lines l hl).2 c hc)).1
   ·exact (rE (h.jV c hc)).1
  ·exact (rE (h.locks c hc)).1
 ·obtain ⟨t,ht,rfl⟩:=List.mem_map.1 hc
  exact (yT (h.th t ht)).1
theorem Sv (hz:PS p):(jJ p).length≤252000:=by
 have:=nf hz
 have:=hz.locks
 have:=hz.threads
 unfold jJ; simp only [List.length_append,List.length_map]; omega
theorem mg (hz:PS p):(fe p).length≤250500:=by unfold fe; rw [List.length_map]; exact nf hz
theorem QE (hz:PS p):(iN p).length≤1000:=by
 have:=hz.threads
 have:=hz.recover
 unfold iN; rw [List.length_append]; omega
theorem PZ.mP (hz:PZ p) {t:dS} (ht:t∈iN p):SzT t∧t.aN.length≤500∧t.body.length≤500:=by
 refine ⟨?_,hz.aN t ht,hz.body t ht⟩
 rcases List.mem_append.1 ht with h | h
 ·exact hz.zt t h
 ·exact hz.zr t h
end
theorem C93 (p:cW) (pv:bL) (w:World) (hp:cA.dr w pv p) (hz:PZ p):CR 93 [Flat.val pv] w (λ v w'=>v = .bool (me p)∧Ext w w'):=by
 obtain ⟨bF,bQ,bG,aT,aU,aX,rfl,cH,dA,cI,bR,bO,cB⟩:=hp;have hs:=St.start w;refine aiw _ _ _ ?_;unfold S93;refine dE hs (λ kK w1 hs=>?_);refine ⟨λ m x w1=>∃ k:Nat,x = .int .i64 (k:Int)∧m=p.lines.length - k∧k≤p.lines.length∧(∀ y∈p.lines.take k,xw y=false)∧St w bD [cE kK (Flat.enc (⟨bF,bQ,bG,aT,aU,aX⟩:bL))] w1,⟨_,0,rfl,rfl,Nat.zero_le _,by simp,hs⟩,?_⟩;rintro m _ w2 ⟨k,rfl,rfl,hk,fS,hs⟩ fz;have hzl:=hz.lines;refine aA jx (aB r7 hs.hb rfl ?_);obtain ⟨awQ,ajc,apB⟩:=(cH).open
 have apC:=apB.1;refine aK vM (ajc.ext hs.aE) (aR (aC (λ gw=>?_) (λ gw=>?_)))
 ·obtain ⟨pS,jW⟩:∃ xx,awQ[((k:Int)).toNat]? = some xx:=⟨_,List.getElem?_eq_getElem (by omega)⟩;obtain ⟨mJ,o8⟩:∃ xx,((p).lines)[((k:Int)).toNat]? = some xx:=⟨_,List.getElem?_eq_getElem (by omega)⟩;have apD:DL w (Flat.val pS) mJ:=apB.2 _ _ _ jW o8;refine ⟨λ jv w'=>jv = .bool (xw mJ)∧St w bD [cE kK (Flat.enc (⟨bF,bQ,bG,aT,aU,aX⟩:bL))] w',?_,?_⟩
  ·refine aA jx (aB r7 hs.hb rfl (aQ vM (ajc.ext hs.aE) (by omega) jW (λ _ rz=>aD jF (rz) ?_)));have apE:=DL.flat (apD);refine aK j6 (apE.ext hs.aE) (aH (aC (λ gd=>?_) (λ gd=>?_)))
   ·exact ⟨vb (by unfold xw; grind),hs⟩
   ·refine aA jx (aB r7 hs.hb rfl (aQ vM (ajc.ext hs.aE) (by omega) jW (λ _ ox=>aD jF (ox) (aZ Uy hs (C155 _ _ _ _ (apE.ext hs.aE) (by have:=hz.line _ (List.mem_of_getElem? o8); omega) (hz.zl _ (List.mem_of_getElem? o8))) (λ w3 he hs=>bZ ?_)))));exact ⟨vb (by unfold xw; grind),hs⟩
  ·rintro _ w4 ⟨rfl,hs⟩ jB;refine aY (λ gh=>?_) (λ gh=>?_)
   ·refine ⟨vb ?_,hs.drop.aE⟩;unfold me;rw [jH o8 gh]; rfl
   ·refine aO (by omega) ?_;exact ⟨_,by omega,k+1,rfl,rfl,by omega,eH fS o8 gh,hs⟩
 ·have apF:=fS;refine ⟨λ m x w1=>∃ kb:Nat,x = .int .i64 (kb:Int)∧m=p.cC.length - kb∧kb≤p.cC.length∧(∀ y∈p.cC.take kb,um y=false)∧St w bD [cE kK (Flat.enc (⟨bF,bQ,bG,aT,aU,aX⟩:bL))] w1,⟨_,0,rfl,rfl,Nat.zero_le _,by simp,hs⟩,?_⟩;rintro m _ w5 ⟨kb,rfl,rfl,hkb,NN,hs⟩ oN;have hzc:=hz.cC;refine aA kR (aB sZ hs.hb rfl ?_);obtain ⟨awR,ajd,apG⟩:=(cB).open;have hn13:=apG.1;refine aK yM (ajd.ext hs.aE) (aR (aC (λ jP=>?_) (λ jP=>?_)))
  ·obtain ⟨Ll,Bv⟩:∃ xx,awR[((kb:Int)).toNat]? = some xx:=⟨_,List.getElem?_eq_getElem (by omega)⟩;obtain ⟨af6,Ey⟩:∃ xx,((p).cC)[((kb:Int)).toNat]? = some xx:=⟨_,List.getElem?_eq_getElem (by omega)⟩;obtain ⟨ac7,rfl,ac8⟩:=apG.2 _ _ _ Bv Ey;refine ⟨λ jv w'=>jv = .bool (um af6)∧St w bD [cE kK (Flat.enc (⟨bF,bQ,bG,aT,aU,aX⟩:bL))] w',?_,?_⟩
   ·refine aA kR (aB sZ hs.hb rfl (aQ yM (ajd.ext hs.aE) (by omega) Bv (λ _ Ez=>bT (af6).at_ Qj Ez rfl rfl (λ _ uo=>aD bN (uo) (aZ PN hs (C156 _ _) (λ w6 he hs=>bZ (aY (λ kB=>?_) (λ kB=>?_))))))))
    ·exact ⟨vb (by unfold um; grind),hs⟩
    ·refine aA kR (aB sZ hs.hb rfl (aQ yM (ajd.ext hs.aE) (by omega) Bv (λ _ sF=>bT ac7 CU sF rfl rfl (λ _ Vy=>aD mW (Vy) ?_))));have awS:=DL.flat (ac8);refine aZ Kb hs (C105 _ _ _ (awS.ext hs.aE) (hz.zc _ (List.mem_of_getElem? Ey)).1 (hz.zc _ (List.mem_of_getElem? Ey)).2) (λ w7 he hs=>bZ ?_);exact ⟨vb (by unfold um; grind),hs⟩
   ·rintro _ w8 ⟨rfl,hs⟩ F6;refine aY (λ sJ=>?_) (λ sJ=>?_)
    ·refine ⟨vb ?_,hs.drop.aE⟩;unfold me;rw [jH Ey sJ]; simp
    ·refine aO (by omega) ?_;exact ⟨_,by omega,kb+1,rfl,rfl,by omega,eH NN Ey sJ,hs⟩
  ·refine ⟨λ jv w'=>jv = .bool (tg 4294967296 p.jV && tg 0 p.locks && oy true p.threads && oy false p.recover && decide (p.recover.length≤1))∧St w bD [cE kK (Flat.enc (⟨bF,bQ,bG,aT,aU,aX⟩:bL))] w',?_,?_⟩
   ·refine aA uT (aB jF hs.hb rfl ?_);have awT:=DL.flat (dA);refine aZ Uy hs (C155 _ _ _ _ (awT.ext hs.aE) (by have:=hz.jV; omega) hz.zv) (λ w9 he hs=>aY (λ EA=>?_) (λ EA=>?_))
    ·refine aA si (aB jF hs.hb rfl ?_);have awU:=DL.flat (cI);refine aZ Uy hs (C155 _ _ _ _ (awU.ext hs.aE) (by have:=hz.locks; omega) hz.zk) (λ pP he hs=>aY (λ apH=>?_) (λ apH=>?_))
     ·refine aA nj (aB jh hs.hb rfl (aZ afp hs (C157 _ _ true _ (bR.ext hs.aE) (by have:=hz.threads; omega) (λ t ht=>hz.mP (List.mem_append_left _ ht))) (λ sB he hs=>aY (λ qD=>?_) (λ qD=>?_))))
      ·refine aA sj (aB jh hs.hb rfl (aZ afp hs (C157 _ _ false _ (bO.ext hs.aE) (by have:=hz.recover; omega) (λ t ht=>hz.mP (List.mem_append_right _ ht))) (λ u7 he hs=>aY (λ apI=>?_) (λ apI=>?_))))
       ·refine aA sj (aB jh hs.hb rfl ?_);obtain ⟨ts17,awV,awW⟩:=(bO).open;have hn17:=awW.1;refine aK iP (awV.ext hs.aE) (j9 ?_);exact ⟨vb (by grind),hs⟩
       ·exact ⟨vb (by grind),hs⟩
      ·exact ⟨vb (by grind),hs⟩
     ·exact ⟨vb (by grind),hs⟩
    ·exact ⟨vb (by grind),hs⟩
   ·rintro _ u9 ⟨rfl,hs⟩ QC;refine ⟨vb ?_,hs.drop.aE⟩;unfold me;rw [iM (by rw [List.take_of_length_le (by omega)] at apF; exact apF),iM (by rw [List.take_of_length_le (by omega)] at NN; exact NN)]; rfl
theorem C42 (p:cW) (pv:bL) (w:World) (hp:cA.dr w pv p) (hz:PZ p):CR 42 [Flat.val pv] w (λ v w'=>lW (bK v (pz p)) w w'):=by
 obtain ⟨bF,bQ,bG,aT,aU,aX,rfl,cH,dA,cI,bR,bO,cB⟩:=hp;have hs:=St.start w;refine ahR _ _ _ ?_;unfold S42;refine dE hs (λ kK w1 hs=>bX (([]:List Int)) hs ek rfl rfl (eL rfl) (λ ac9 w2 hs=>aD gF hs.p1.At (cZ J9 hs (C102 p _ _ ⟨bF,bQ,bG,aT,aU,aX,rfl,(cH).ext hs.aE,(dA).ext hs.aE,(cI).ext hs.aE,(bR).ext hs.aE,(bO).ext hs.aE,(cB).ext hs.aE⟩ hz.toPS) (λ x8 w3 bV hs=>?_))));have hs:=hs.p2.p1.p2;refine ⟨λ m y x w1=>∃ k:Nat,x = .int .i64 (k:Int)∧m=(gJ p).length - k∧k≤(gJ p).length∧St w bD [bK y (((gJ p).take k).map dI.n),bK x8 (gJ p),cE kK (Flat.enc (⟨bF,bQ,bG,aT,aU,aX⟩:bL))] w1,⟨_,0,rfl,rfl,by omega,hs⟩,?_⟩
 rintro m fW _ w4 ⟨k,rfl,rfl,hk,hs⟩ fz;have hac:=nf hz.toPS;have hml:(((gJ p).take k).map dI.n).length=k:=by rw [List.length_map,List.length_take]; omega
 refine aK j6 (hs.p1).fB (aR (aC (λ j1=>?_) (λ j1=>?_)))
 ·obtain ⟨rA,jt⟩:=gx ((gJ p)) (i:=((k:Int)).toNat) (by omega);refine dU hs.p1 j6 (by omega) (by omega) (λ _ wx=>nd zR wx (λ _ ju=>og (rA).n hs.p1 bN ju jt rfl (bX (([(rA).n]:List Int)) hs ek rfl rfl (eL rfl) (λ s_x21 w5 hs=>?_))));have aje:=(hs).fB;refine cP hs.p1 ek aje (by simp <;> omega) (by decide) (λ apJ w6 hs=>have hs:=hs.p1.drop;aO (by omega) ?_);have hs:=hs.p2.p2.p2;exact ⟨_,by omega,k+1,rfl,rfl,by omega,by rw [← iU (k:=k) jt]; exact hs⟩
 ·have hs:=hs.p1.drop.p1.drop;rw [List.take_of_length_le (by omega)] at hs;exact hs.fresh
theorem C46 (p:cW) (pv:bL) (w:World) (hp:cA.dr w pv p) (hz:PZ p):CR 46 [Flat.val pv] w (λ v w'=>lW (bK v (fe p)) w w'):=by
 obtain ⟨bF,bQ,bG,aT,aU,aX,rfl,cH,dA,cI,bR,bO,cB⟩:=hp;have hs:=St.start w;refine ahW _ _ _ ?_;unfold S46;refine dE hs (λ kK w1 hs=>aD gF hs.At (cZ J9 hs (C102 p _ _ ⟨bF,bQ,bG,aT,aU,aX,rfl,(cH).ext hs.aE,(dA).ext hs.aE,(cI).ext hs.aE,(bR).ext hs.aE,(bO).ext hs.aE,(cB).ext hs.aE⟩ hz.toPS) (λ x4 w2 bV hs=>cZ Uu hs (C107 _ _ _ (hs).fB (by have:=nf hz.toPS; omega)) (λ x5 w3 bV hs=>?_))));have hs:=((hs.p1.drop).p1).drop;exact hs.fresh
theorem C99 (p:cW) (pv:bL) (w:World) (hp:cA.dr w pv p) (hz:PZ p):CR 99 [Flat.val pv] w (λ v w'=>lW (bK v (g9 p)) w w'):=by
 obtain ⟨bF,bQ,bG,aT,aU,aX,rfl,cH,dA,cI,bR,bO,cB⟩:=hp;have hs:=St.start w;refine aiC _ _ _ ?_;unfold S99;refine dE hs (λ kK w1 hs=>aA si (aB jF hs.hb rfl ?_));have awX:=DL.flat (cI);refine cZ Uu hs (C107 _ _ _ (awX.ext hs.aE) (by have:=hz.locks; omega)) (λ x5 w2 bV hs=>?_);have hs:=(hs.p1).drop;exact hs.fresh
theorem C41 (p:cW) (pv:bL) (w:World) (hp:cA.dr w pv p) (hz:PZ p):CR 41 [Flat.val pv] w (λ v w'=>v = .int .i64 (eC p)∧Ext w w'):=by
 obtain ⟨bF,bQ,bG,aT,aU,aX,rfl,cH,dA,cI,bR,bO,cB⟩:=hp;have hs:=St.start w;refine ahQ _ _ _ ?_;unfold S41;refine dE hs (λ kK w1 hs=>have hs:=hs.drew;aD gF hs.At (aA uT (aB jF hs.hb rfl ?_)));have awY:=DL.flat (dA);refine aK j6 (awY.ext hs.aE) (cZ J9 hs (C102 p _ _ ⟨bF,bQ,bG,aT,aU,aX,rfl,(cH).ext hs.aE,(dA).ext hs.aE,(cI).ext hs.aE,(bR).ext hs.aE,(bO).ext hs.aE,(cB).ext hs.aE⟩ hz.toPS) (λ x4 w2 bV hs=>?_));refine ⟨aG jF (hs.p1.hb.cell rfl),?_⟩
 refine aK j6 (hs).fB ?_;have hac:=nf hz.toPS;have hzv:=hz.jV;refine gA (by omega) ?_;have hs:=((hs.drop)).drop;exact ⟨congrArg (Value.int .i64) (VG p),hs.aE⟩
theorem VH {l:List dI} {r:List (List dI)} {i a:Int} (h:¬ a<l.length):ix (l::r) i a=ix r (i+1) (a - l.length):=by rw [ix,if_neg h]
theorem ajf {x:cG} {n m:Int} (hn:1≤n∧n≤64) (h:x.kind=12→1≤x.n∧x.n≤8) (hm:m=sI x n):1≤m∧m≤512:=by
 rw [hm]; unfold sI
 split
 ·rename_i hk
  have:=h hk
  have h1:=Int.mul_le_mul (a:=1) (b:=1) hn.1 this.1 (by omega) (by omega)
  have h2:=Int.mul_le_mul (c:=64) (d:=8) hn.2 this.2 (by omega) (by omega)
  omega
 ·omega
theorem Bk.C2 {t:Bk} (h:¬ (t.flat.length:Int)=0):∃ x a b r,t = .cons x a b r:=by
 cases t with
 | nil=>exact absurd rfl h
 | cons x a b r=>exact ⟨x,a,b,r,rfl⟩
theorem Bk.vL {x:cG} {a b r:Bk} (h:(Bk.cons x a b r).str) {hi lo:Int} (h1:hi=1+x.body+x.fJ) (h2:lo=1):((Bk.cons x a b r).flat.take hi.toNat).drop lo.toNat=(a.app b).flat:=by
 obtain ⟨g1,g2,_⟩:=h
 have la:=a.cR
 have lb:=b.cR
 rw [Bk.Ew,Em _ (a:=1) (n:=(a.flat++b.flat).length) (by rw [List.length_append]; omega) (by omega)]
 show (a.flat++(b.flat++r.flat)).take _=_
 rw [← List.append_assoc,List.take_left]
theorem Bk.ada {x:cG} {a b r:Bk} (h:(Bk.cons x a b r).str) {hi:Int} (h1:hi=1+x.body+x.fJ):(Bk.cons x a b r).flat.drop hi.toNat=r.flat:=by
 obtain ⟨g1,g2,_⟩:=h
 have la:=a.cR
 have lb:=b.cR
 have e:(Bk.cons x a b r).flat=(x::(a.flat++b.flat))++r.flat:=by simp [Bk.flat]
 rw [e,show hi.toNat=(x::(a.flat++b.flat)).length from by simp; omega,List.drop_left]
theorem G5 {l:List dI} {k:Nat} {c:dI} (h:l[k]? = some c):C1 l k=decide (dQ (l.map dI.name) c.name<k):=by unfold C1; rw [h]
theorem QF {p:cW} {l:List ByteArray} {k:Nat} {c:ByteArray} (h:l[k]? = some c):QD p l k=(decide (dQ l c<k) || decide (0≤dQ (fe p) c) || decide (0≤dQ (g9 p) c)):=by unfold QD; rw [h]
theorem QG (a b:Bk):(a.app b).len=a.len+b.len:=by rw [← Bk.cR,Bk.Ew,List.length_append,Bk.cR,Bk.cR]
theorem C43 (p:cW) (pv:bL) (c:Int) (w:World) (hp:cA.dr w pv p) (hz:PZ p):CR 43 [Flat.val pv,.int .i64 c] w (λ v w'=>v = .int .i64 (mf p c)∧Ext w w'):=by
 obtain ⟨bF,bQ,bG,aT,aU,aX,rfl,cH,dA,cI,bR,bO,cB⟩:=hp;have hs:=St.start w;refine ahT _ _ _ _ ?_;unfold S43;refine dE hs (λ VI w1 hs=>?_);refine ⟨λ jv w'=>jv = .bool (decide (c<0) || decide (((gJ p).length:Int)≤c))∧St w bD [cE VI (Flat.enc (⟨bF,bQ,bG,aT,aU,aX⟩:bL))] w',?_,?_⟩
 ·refine aR (aC (λ gp=>?_) (λ gp=>?_))
  ·exact ⟨vb (by grind),hs⟩
  ·refine aD gF hs.At (cZ J9 hs (C102 p _ _ ⟨bF,bQ,bG,aT,aU,aX,rfl,(cH).ext hs.aE,(dA).ext hs.aE,(cI).ext hs.aE,(bR).ext hs.aE,(bO).ext hs.aE,(cB).ext hs.aE⟩ hz.toPS) (λ x12 w2 bV hs=>aK j6 (hs).fB (dH ?_)));have hs:=(hs).drop;exact ⟨vb (by grind),hs⟩
 ·rintro _ w3 ⟨rfl,hs⟩ fz;have hac:=nf hz.toPS;refine aY (λ js=>?_) (λ js=>?_)
  ·refine ⟨congrArg (Value.int .i64) ?_,hs.drop.aE⟩;unfold mf;rw [if_pos (by grind)]
  ·have Zp:0≤c∧c<(gJ p).length:=by grind
   refine ⟨λ m y x w1=>∃ (k:Nat) (a:Int),y = .int .i64 a∧x = .int .i64 (k:Int)∧m=p.lines.length - k∧k≤p.lines.length∧0≤a∧a≤c∧ix p.lines 0 c=ix (p.lines.drop k) k a∧St w bD [cE VI (Flat.enc (⟨bF,bQ,bG,aT,aU,aX⟩:bL))] w1,⟨_,0,c,rfl,rfl,rfl,by omega,by omega,by omega,rfl,hs⟩,?_⟩;rintro m _ _ w4 ⟨k,a,rfl,rfl,rfl,hk,ha0,hac1,QH,hs⟩ jB;have hzl:=hz.lines;refine aA jx (aB r7 hs.hb rfl ?_);obtain ⟨aw0,adb,apK⟩:=(cH).open;have aw1:=apK.1;refine aK vM (adb.ext hs.aE) (aR (aC (λ gv=>?_) (λ gv=>?_)))
   ·refine aA jx (aB r7 hs.hb rfl ?_);obtain ⟨yw,yV⟩:=gx aw0 (i:=((k:Int)).toNat) (by omega);obtain ⟨apL,EB⟩:=gx ((p).lines) (i:=((k:Int)).toNat) (by omega);have apM:DL w (Flat.val yw) apL:=apK.2 _ _ _ yV EB;refine aQ vM (adb.ext hs.aE) (by omega) yV (λ _ wC=>aD jF (wC) ?_);have apN:=DL.flat (apM);refine aK j6 (apN.ext hs.aE) (aR (aC (λ lQ=>?_) (λ lQ=>?_)))
    ·refine ⟨congrArg (Value.int .i64) ?_,hs.drop.aE⟩;rw [drop_cons (k:=k) EB] at QH;unfold mf;rw [if_neg (by omega),QH];unfold ix;rw [if_pos (by omega)]
    ·refine aA jx (aB r7 hs.hb rfl (aQ vM (adb.ext hs.aE) (by omega) yV (λ _ Ag=>aD jF (Ag) (aK j6 (apN.ext hs.aE) (gA (by omega) (aO (by omega) ?_))))));rw [drop_cons (k:=k) EB,VH (by omega)] at QH;exact ⟨_,by omega,k+1,_,rfl,rfl,rfl,by omega,by omega,by omega,QH,hs⟩
   ·refine aA jx (aB r7 hs.hb rfl (aK vM (adb.ext hs.aE) (aO (by omega) ?_)));refine ⟨congrArg (Value.int .i64) ?_,hs.drop.aE⟩;rw [List.drop_eq_nil_of_le (by omega)] at QH;unfold mf;rw [if_neg (by omega),QH];unfold ix;omega
theorem C101 (lv nv:Value) (xs:List dC) (ns:List ByteArray) (w:World) (hL:eE (λ _=>True) w lv xs) (hN:eE (λ _=>True) w nv ns) (hn:xs.length≤1048576) (hns:ns.length≤1048576) (ti:∀ y∈xs,0≤y.at_):CR 101 [lv,nv] w (λ v w'=>∃ a:Int,v = .int .i64 a∧decide (0≤a)=vD xs ns∧Ext w w'):=by
 have hs:=St.start w;refine ZB _ _ _ _ ?_;unfold S101;refine ⟨λ m x w1=>∃ k:Nat,x = .int .i64 (k:Int)∧m=xs.length - k∧k≤xs.length∧(∀ y∈xs.take k,(decide (y.op=2) && decide (dQ ns y.name<0))=false)∧St w bD [] w1,⟨_,0,rfl,rfl,Nat.zero_le _,by simp,hs⟩,?_⟩;rintro m _ w1 ⟨k,rfl,rfl,hk,fS,hs⟩ fz;refine aK lV (hL.ext hs.aE) (aR (aC (λ gw=>?_) (λ gw=>?_)))
 ·obtain ⟨jr,dG⟩:∃ xx,(xs)[((k:Int)).toNat]? = some xx:=⟨_,List.getElem?_eq_getElem (by omega)⟩;refine ⟨λ jv w'=>jv = .bool (decide (jr.op=2) && decide (dQ ns jr.name<0))∧St w bD [] w',?_,?_⟩
  ·refine aQ lV (hL.ext hs.aE) (by omega) dG (λ _ iS=>bT (jr).op jn iS rfl rfl (λ _ rz=>aD bN (rz) (aH (aC (λ mc=>?_) (λ mc=>?_)))))
   ·refine aQ lV (hL.ext hs.aE) (by omega) dG (λ _ Lg=>bT (jr).name lh Lg rfl rfl (λ _ ox=>aD ke (ox) (aZ Bc hs (C98 _ ns _ _ (hN.ext hs.aE) (by omega)) (λ w2 he hs=>aR ?_))));exact ⟨vb (by grind),hs⟩
   ·exact ⟨vb (by grind),hs⟩
  ·rintro _ w3 ⟨rfl,hs⟩ jB;refine aY (λ gh=>?_) (λ gh=>?_)
   ·refine aQ lV (hL.ext hs.aE) (by omega) dG (λ _ ow=>bT (jr).at_ DN ow rfl rfl (λ _ oO=>aD bN (oO) ?_));exact ⟨_,rfl,by unfold vD; rw [jH dG gh]; exact decide_eq_true (ti _ (List.mem_of_getElem? dG)),hs.aE⟩
   ·refine aO (by omega) ?_;exact ⟨_,by omega,k+1,rfl,rfl,by omega,eH fS dG gh,hs⟩
 ·rw [List.take_of_length_le (by omega)] at fS;exact ⟨_,rfl,by unfold vD; rw [iM fS]; rfl,hs.aE⟩
theorem C96 (lv:Value) (t:Bk) (n:Int) (N:Nat) (w:World) (hL:DL w lv t.flat) (gn:t.str) (hq:∀ x∈t.flat,0≤x.at_∧(x.kind=12→1≤x.n∧x.n≤8)) (hn:1≤n∧n≤64) (hl:t.len≤1048576) (hN:t.len<N):CR 96 [lv,.int .i64 n] w (λ v w'=>∃ a:Int,v = .int .i64 a∧decide (0≤a)=oP t n∧Ext w w'):=by
 have Cw:=t.cR;have hs:=St.start w;refine aiz _ _ _ _ ?_;unfold S96;obtain ⟨aw2,Sw,ade⟩:=(hL).open;have hn22:=ade.1;refine aK j7 (Sw.ext hs.aE) (aH (aC (λ gT=>?_) (λ gT=>?_)))
 ·cases t with
  | nil=>exact ⟨_,rfl,rfl,hs.aE⟩
  | cons x a b r=>exact absurd Cw (by rw [show (Bk.cons x a b r).len=a.len+b.len+r.len+1 from rfl]; omega)
 ·obtain ⟨x,a,b,r,rfl⟩:=Bk.C2 (t:=t) (by omega);obtain ⟨Vj,Bp⟩:=gx aw2 (i:=((0:Int)).toNat) (by omega);obtain ⟨mh,VJ⟩:=gx ((Bk.cons x a b r).flat) (i:=((0:Int)).toNat) (by omega);obtain ⟨QI,QJ,rfl,atA,atB⟩:=ade.2 _ _ _ Bp VJ;refine aQ j7 (Sw.ext hs.aE) (by omega) Bp (λ _ KU=>?_);obtain rfl:mh=x:=(Option.some.inj VJ).symm;have hqx:=hq mh (by simp [Bk.flat]);have Lm:=gn;obtain ⟨FK,hg2,hg3,hg4,VK,hgb,hgr⟩:=Lm;have TT:a.len+b.len+r.len+1≤1048576:=hl;have hNn:a.len+b.len+r.len+1<N:=hN;have MP:=a.cR;have QB:=b.cR;have hlr:=r.cR
  have QH:(Bk.cons mh a b r).flat.length=a.len+b.len+r.len+1:=Bk.cR _;refine aD fX (KU) (aJ hs qJ (λ ur w1 hs=>aI (x:=(⟨(mh).kind,(mh).gP,(mh).name,QI,QJ,(mh).n,(mh).body,(mh).fJ,(mh).at_⟩:bY)) hs fX rfl rfl (λ w2 hs=>?_)));refine ⟨λ jv w'=>∃ m:Int,jv = .int .i64 m∧m=sI mh n∧St w bD [cE ur (Flat.enc (⟨(mh).kind,(mh).gP,(mh).name,QI,QJ,(mh).n,(mh).body,(mh).fJ,(mh).at_⟩:bY))] w',?_,?_⟩
  ·refine aA fC (aB (v:=.int .i64 ((mh).kind)) bN hs.hb rfl (aH (aC (λ gd=>?_) (λ gd=>?_))))
   ·refine aA tZ (aB (v:=.int .i64 ((mh).n)) bN hs.hb rfl (Qf (by have xZ:=hqx.2 gd; have h1:=Int.mul_le_mul (a:=1) (b:=1) hn.1 xZ.1 (by omega) (by omega); have h2:=Int.mul_le_mul (c:=64) (d:=8) hn.2 xZ.2 (by omega) (by omega); omega) ?_));exact ⟨_,rfl,by grind [sI],hs⟩
   ·exact ⟨_,rfl,by grind [sI],hs⟩
  ·rintro _ w3 ⟨m,rfl,hm,hs⟩ fz;have hm8:=ajf hn hqx.2 hm;refine dD (aC (λ iH=>?_) (λ iH=>?_))
   ·refine aA ri (aB (v:=.int .i64 ((mh).at_)) bN hs.hb rfl ?_);exact ⟨_,rfl,by unfold oP; rw [← hm,decide_eq_true (show (64:Int)<m by omega)]; exact decide_eq_true hqx.1,hs.drop.aE⟩
   ·refine aA m6 (aB (v:=.int .i64 ((mh).body)) bN hs.hb rfl (aO (by omega) (aA iQ (aB (v:=.int .i64 ((mh).fJ)) bN hs.hb rfl (aO (by omega) (kx j7 (Sw.ext hs.aE) (by omega) (by omega) (by omega) (λ apO ajj=>?_)))))));have ajk:=DL.cut ajj Sw ade;refine ed aiF (C96 _ (a.app b) m (N - 1) _ (by have h:=ajk.ext hs.aE; rw [Bk.vL gn (by omega) (by omega)] at h; exact h) (Bk.ac6 VK hgb) (λ y hy=>hq y (by rw [Bk.Ew] at hy; simp only [Bk.flat,List.mem_cons,List.mem_append]; rcases List.mem_append.1 hy with h | h <;> simp [h])) (by omega) (by rw [QG]; omega) (by rw [QG]; omega)) ?_
    rintro _ w4 ⟨a1,rfl,ha1,he⟩;have hs:=hs.ext he;rw [Su] at ha1;refine dH (aC (λ sE=>?_) (λ sE=>?_))
    ·exact ⟨_,rfl,by unfold oP; rw [← hm]; rw [decide_eq_true sE] at ha1; rw [← ha1,decide_eq_true sE]; simp,hs.drop.aE⟩
    ·refine u3 j7 (Sw.ext hs.aE) (by omega) (by omega) (λ apP ajl=>?_);have ajm:=DL.Qr ajl Sw ade;refine ed aiF (C96 _ r n (N - 1) _ (by have h:=ajm.ext hs.aE; rw [Bk.ada gn (by omega)] at h; exact h) hgr (λ y hy=>hq y (by simp [Bk.flat,hy])) hn (by omega) (by omega)) ?_;rintro _ w5 ⟨a2,rfl,YW,he⟩;have hs:=hs.ext he;exact ⟨_,rfl,by unfold oP; rw [← hm]; rw [← ha1,YW,decide_eq_false (show ¬ (64:Int)<m by omega),decide_eq_false sE]; rfl,hs.drop.aE⟩
termination_by N
decreasing_by all_goals omega
theorem C95 (p:cW) (pv:bL) (ts3 ts4:List ei) (w:World) (hp:cA.dr w pv p) (h3:eE (λ _=>True) w (Flat.val pv.threads) ts3) (h4:eE (λ _=>True) w (Flat.val pv.recover) ts4) (hz3:ts3.length≤500) (hz4:ts4.length≤500):CR 95 [Flat.val pv] w (λ v w'=>lW (bK v (ts3++ts4)) w w'):=by
 obtain ⟨bF,bQ,bG,aT,aU,aX,rfl,cH,dA,cI,bR,bO,cB⟩:=hp;have hs:=St.start w;refine aiy _ _ _ ?_;unfold S95;refine dE hs (λ kK w1 hs=>bX (([]:List ei)) hs iP rfl rfl (eL rfl) (λ aw8 w2 hs=>aA nj (aB jh hs.p1.hb rfl ?_)));have Ak:=(h3.ext hs.aE);refine cP hs iP Ak (by simp <;> omega) (by decide) (λ Ln w3 hs=>aA sj (aB jh hs.p1.hb rfl ?_));have vc:=(h4.ext hs.aE);refine cP hs iP vc (by simp; omega) (by decide) (λ afY w4 hs=>?_);have hs:=(hs.p1).drop;exact hs.fresh
theorem C97 (p:cW) (pv:bL) (w:World) (hp:cA.dr w pv p) (hz:PZ p) (ti:∀ c∈jJ p,0≤c.at_):CR 97 [Flat.val pv] w (λ v w'=>∃ a:Int,v = .int .i64 a∧decide (0≤a)=rF (jJ p)∧Ext w w'):=by
 obtain ⟨bF,bQ,bG,aT,aU,aX,rfl,cH,dA,cI,bR,bO,cB⟩:=hp;have hs:=St.start w;refine aiA _ _ _ ?_;unfold S97;refine dE hs (λ kK w1 hs=>bX (([]:List dI)) hs j6 rfl rfl (eL rfl) (λ Ln w2 hs=>aD gF hs.p1.At (cZ J9 hs (C102 p _ _ ⟨bF,bQ,bG,aT,aU,aX,rfl,(cH).ext hs.aE,(dA).ext hs.aE,(cI).ext hs.aE,(bR).ext hs.aE,(bO).ext hs.aE,(cB).ext hs.aE⟩ hz.toPS) (λ x9 w3 bV hs=>?_))));have ajn:=(hs).fB;refine cP hs.p1 j6 ajn (by simp; have:=nf hz.toPS; omega) (by decide) (λ apf w4 hs=>have hs:=hs.p1.drop;aA si (aB jF hs.p1.hb rfl ?_))
 have aw9:=DL.flat (cI);have jX:=(aw9.ext hs.aE);refine cP hs j6 jX (by simp; have:=nf hz.toPS; have:=hz.locks; omega) (by decide) (λ s_x14 w5 hs=>?_);have hs:=hs.p1.p1;refine ⟨λ m y x w1=>∃ k:Nat,x = .int .i64 (k:Int)∧m=p.threads.length - k∧k≤p.threads.length∧St w bD [bK y (gJ p++p.locks++(p.threads.take k).map (λ t=>(⟨t.name,0,t.at_⟩:dI))),cE kK (Flat.enc (⟨bF,bQ,bG,aT,aU,aX⟩:bL))] w1,⟨_,0,rfl,rfl,by omega,by simpa using hs⟩,?_⟩;rintro m l3 _ w6 ⟨k,rfl,rfl,hk,hs⟩ fz;have Lh:=hz.threads;refine aA nj (aB jh hs.p1.hb rfl ?_)
 obtain ⟨axa,ajo,apQ⟩:=(bR).open;have hn24:=apQ.1;refine aK iP (ajo.ext hs.aE) (aR (aC (λ fy=>?_) (λ fy=>?_)))
 ·refine aA nj (have hs:=hs.drew;aB jh hs.p1.hb rfl ?_);obtain ⟨apR,Bw⟩:=gx axa (i:=((k:Int)).toNat) (by omega);obtain ⟨Al,Bx⟩:=gx ((p).threads) (i:=((k:Int)).toNat) (by omega);obtain ⟨ajp,ajq,rfl,ajr,ajs⟩:=apQ.2 _ _ _ Bw Bx;refine aQ iP (ajo.ext hs.aE) (by omega) Bw (λ _ rB=>bT (Al).name zO rB rfl rfl (λ _ wy=>aD ke (wy) (aA nj (aB jh hs.p1.hb rfl (aQ iP (ajo.ext hs.aE) (by omega) Bw (λ _ Am=>bT (Al).at_ zP Am rfl rfl (λ _ An=>aD bN (An) (pop (DV _ _) (bX ([(⟨(Al).name,0,(Al).at_⟩:dI)]) hs j6 rfl rfl (eL rfl) (λ af8 w7 hs=>?_))))))))))
  have ajt:=(hs).fB;refine cP hs.p1 j6 ajt (by have:=nf hz.toPS; have:=hz.locks; have:=hz.threads; simp; omega) (by decide) (λ apS w8 hs=>have hs:=hs.p1.drop;aO (by omega) ?_);have hs:=hs.p1.p1;exact ⟨_,by omega,k+1,rfl,rfl,by omega,by rw [← iU (k:=k) Bx,← List.append_assoc]; exact hs⟩
 ·rw [List.take_of_length_le (by omega)] at hs;have hdl:=Sv hz.toPS;have hs:St w bD [bK l3 (jJ p),cE kK (Flat.enc (⟨bF,bQ,bG,aT,aU,aX⟩:bL))] _:=hs;refine cZ Uu hs (C107 _ _ _ (hs).fB (by omega)) (λ x39 w9 bV hs=>?_);have hs:=hs.p2.p2.p2;refine ⟨λ m x w1=>∃ k:Nat,x = .int .i64 (k:Int)∧m=(jJ p).length - k∧k≤(jJ p).length∧(∀ j,j<k→C1 (jJ p) j=false)∧St w bD [bK x39 ((jJ p).map dI.name),bK l3 (jJ p),cE kK (Flat.enc (⟨bF,bQ,bG,aT,aU,aX⟩:bL))] w1,⟨_,0,rfl,rfl,by omega,by simp,hs⟩,?_⟩
  rintro m _ pP ⟨k,rfl,rfl,hk,fS,hs⟩ jB;refine aK j6 (hs.p1).fB (aR (aC (λ uj=>?_) (λ uj=>?_)))
  ·obtain ⟨EC,vj⟩:=gx ((jJ p)) (i:=((k:Int)).toNat) (by omega);refine dU hs.p1 j6 (by omega) (by omega) (λ _ ED=>nd pL ED (λ _ VL=>og (EC).name hs.p1 ke VL vj rfl (aZ Bc hs (C98 _ (((jJ p)).map dI.name) _ _ (hs).fB (by rw [List.length_map]; omega)) (λ sB he hs=>aR (aC (λ wE=>?_) (λ wE=>?_))))))
   ·refine dU hs.p1 j6 (by omega) (by omega) (λ _ wF=>nd DM wF (λ _ Ao=>og (EC).at_ hs.p1 bN Ao vj rfl ?_));have hs:=((((hs.drop)).drop)).drop;exact ⟨_,rfl,by unfold rF; rw [rG (j:=k) (by omega) (by rw [G5 (k:=k) vj]; exact decide_eq_true wE)]; exact decide_eq_true (ti _ (List.mem_of_getElem? vj)),hs.aE⟩
   ·refine aO (by omega) ?_;exact ⟨_,by omega,k+1,rfl,rfl,by omega,Ai fS (by rw [G5 (k:=k) vj]; exact decide_eq_false wE),hs⟩
  ·have hs:=((((hs.drop)).drop)).drop;exact ⟨_,rfl,by unfold rF; rw [ng (λ j hj=>fS j (by omega))]; rfl,hs.aE⟩
theorem C100 (p:cW) (pv:bL) (t:dS) (tv:ei) (x:cG) (xv:bY) (w:World) (hp:cA.dr w pv p) (ht:cA.dr w tv t) (hx:cA.dr w xv x) (hz:PZ p) (Lh:t.aN.length≤500) (hzx:SzS x) (ti:0≤x.at_∧(∀ y∈x.e,0≤y.at_)∧(∀ y∈x.f,0≤y.at_)):CR 100 [Flat.val pv,Flat.val tv,Flat.val xv] w (λ v w'=>∃ a:Int,v = .int .i64 a∧decide (0≤a)=oA p t.aN x∧Ext w w'):=by
 obtain ⟨bF,bQ,bG,aT,aU,aX,rfl,cH,dA,cI,bR,bO,cB⟩:=hp;obtain ⟨uu,Ap,rfl,Aq,EE⟩:=ht;obtain ⟨Ab,Ac,rfl,Ld,G0⟩:=hx;have QK:=mg hz.toPS;have KW:(g9 p).length≤500:=by unfold g9; rw [List.length_map]; exact hz.locks
 have hs:=St.start w;refine ZA _ _ _ _ _ ?_;unfold S100;refine dE hs (λ ya w1 hs=>dE hs (λ ajv w2 hs=>dE hs (λ ur w3 hs=>?_)));refine ⟨λ jv w'=>jv = .bool (decide (¬ x.gP=⟨#[]⟩) && decide (dQ t.aN x.gP<0))∧St w bD [cE ur (Flat.enc (⟨(x).kind,(x).gP,(x).name,Ab,Ac,(x).n,(x).body,(x).fJ,(x).at_⟩:bY)),cE ajv (Flat.enc (⟨(t).name,uu,Ap,(t).at_⟩:ei)),cE ya (Flat.enc (⟨bF,bQ,bG,aT,aU,aX⟩:bL))] w',?_,?_⟩
 ·refine aA l4 (aB (v:=.string ((x).gP)) ke hs.hb rfl (oW (aC (λ gT=>?_) (λ gT=>?_))))
  ·refine aA jz (aB pH hs.p1.hb rfl ?_);have axb:=DL.flat (Aq);refine aA l4 (aB (v:=.string ((x).gP)) ke hs.hb rfl (aZ Bc hs (C98 _ (t).aN _ _ (axb.ext hs.aE) (by omega)) (λ w4 he hs=>aR ?_)));exact ⟨vb (by grind),hs⟩
  ·exact ⟨vb (by grind),hs⟩
 ·rintro _ w5 ⟨rfl,hs⟩ fz;refine aY (λ fy=>?_) (λ fy=>?_)
  ·refine aA ri (aB (v:=.int .i64 ((x).at_)) bN hs.hb rfl ?_);have hs:=((((hs.drop)).drop)).drop;exact ⟨_,rfl,by rw [decide_eq_true ti.1]; unfold oA; grind,hs.aE⟩
  ·have hs:=hs.drew;refine aD gF hs.p2.At (aA jo (aB (v:=.string ((x).name)) ke hs.hb rfl (cZ Un hs (C46 p _ _ ⟨bF,bQ,bG,aT,aU,aX,rfl,(cH).ext hs.aE,(dA).ext hs.aE,(cI).ext hs.aE,(bR).ext hs.aE,(bO).ext hs.aE,(cB).ext hs.aE⟩ hz) (λ x23 w6 bV hs=>?_))));refine ⟨aG ke (hs.p1.hb.cell rfl),?_⟩;refine aZ Bc hs (C98 _ (fe p) _ _ (hs).fB (by omega)) (λ w7 he hs=>?_);refine ⟨λ w'=>(((decide (x.kind=2) || decide (x.kind=3) || decide (x.kind=4)) && decide (dQ (fe p) x.name<0)) || ((decide (x.kind=5) || decide (x.kind=6)) && (decide (dQ (fe p) x.name<0) || decide (eC p≤dQ (fe p) x.name))) || ((decide (x.kind=9) || decide (x.kind=10)) && decide (dQ (g9 p) x.name<0)))=false∧St w bD [cE ur (Flat.enc (⟨(x).kind,(x).gP,(x).name,Ab,Ac,(x).n,(x).body,(x).fJ,(x).at_⟩:bY)),cE ajv (Flat.enc (⟨(t).name,uu,Ap,(t).at_⟩:ei)),cE ya (Flat.enc (⟨bF,bQ,bG,aT,aU,aX⟩:bL))] w',?_,?_⟩
   ·refine aA fC (aB (v:=.int .i64 ((x).kind)) bN hs.p1.hb rfl ?_);refine ⟨λ jv w'=>jv = .bool (decide (x.kind=2∨x.kind=3∨x.kind=4))∧w7=w',?_,?_⟩
    ·refine aH (aC (λ nI=>?_) (λ nI=>?_))
     ·exact ⟨vX (by omega),rfl⟩
     ·refine aH (aC (λ lQ=>?_) (λ lQ=>?_))
      ·exact ⟨vX (by omega),rfl⟩
      ·refine aH ?_;exact ⟨vX (by omega),rfl⟩
    ·rintro _ w8 ⟨rfl,hw⟩ jB;subst hw;refine aC (λ VM=>?_) (λ VM=>?_)
     ·refine aR (aC (λ iI=>?_) (λ iI=>?_))
      ·refine aA ri (aB (v:=.int .i64 ((x).at_)) bN hs.p1.hb rfl ?_);have hs:=((((((hs.drop)).drop)).drop)).drop;exact ⟨_,rfl,by rw [decide_eq_true ti.1]; unfold oA; grind,hs.aE⟩
      ·have hs:=(hs.drop.p2.p2).p2;exact ⟨by grind,hs⟩
     ·refine ⟨λ jv w'=>jv = .bool (decide (x.kind=5∨x.kind=6))∧w7=w',?_,?_⟩
      ·refine aH (aC (λ mi=>?_) (λ mi=>?_))
       ·exact ⟨vX (by omega),rfl⟩
       ·refine aH ?_;exact ⟨vX (by omega),rfl⟩
      ·rintro _ w9 ⟨rfl,hw⟩ oN;subst hw;refine aC (λ uh=>?_) (λ uh=>?_)
       ·refine ⟨λ jv w'=>jv = .bool (decide (dQ (fe p) x.name<0) || decide (eC p≤dQ (fe p) x.name))∧St w bD [bK x23 (fe p),cE ur (Flat.enc (⟨(x).kind,(x).gP,(x).name,Ab,Ac,(x).n,(x).body,(x).fJ,(x).at_⟩:bY)),cE ajv (Flat.enc (⟨(t).name,uu,Ap,(t).at_⟩:ei)),cE ya (Flat.enc (⟨bF,bQ,bG,aT,aU,aX⟩:bL))] w',?_,?_⟩
        ·refine aR (aC (λ j3=>?_) (λ j3=>?_))
         ·exact ⟨vb (by grind),hs⟩
         ·refine aD gF hs.p3.At (aZ Zx hs (C41 p _ _ ⟨bF,bQ,bG,aT,aU,aX,rfl,(cH).ext hs.aE,(dA).ext hs.aE,(cI).ext hs.aE,(bR).ext hs.aE,(bO).ext hs.aE,(cB).ext hs.aE⟩ hz) (λ pP he hs=>dH ?_));exact ⟨vb (by grind),hs⟩
        ·rintro _ sB ⟨rfl,hs⟩ F6;refine aY (λ rH=>?_) (λ rH=>?_)
         ·refine aA ri (aB (v:=.int .i64 ((x).at_)) bN hs.p1.hb rfl ?_);have hs:=((((((hs.drop)).drop)).drop)).drop;exact ⟨_,rfl,by rw [decide_eq_true ti.1]; unfold oA; grind,hs.aE⟩
         ·have hs:=(hs.drop.p2.p2).p2;exact ⟨by grind,hs⟩
       ·refine ⟨λ jv w'=>jv = .bool (decide (x.kind=9∨x.kind=10))∧w7=w',?_,?_⟩
        ·refine aH (aC (λ pR=>?_) (λ pR=>?_))
         ·exact ⟨vX (by omega),rfl⟩
         ·refine aH ?_;exact ⟨vX (by omega),rfl⟩
        ·rintro _ u7 ⟨rfl,hw⟩ QC;subst hw;refine aC (λ pX=>?_) (λ pX=>?_)
         ·have hs:=hs.drew;refine aD gF hs.p3.At (aA jo (aB (v:=.string ((x).name)) ke hs.p1.hb rfl (cZ aiG hs (C99 p _ _ ⟨bF,bQ,bG,aT,aU,aX,rfl,(cH).ext hs.aE,(dA).ext hs.aE,(cI).ext hs.aE,(bR).ext hs.aE,(bO).ext hs.aE,(cB).ext hs.aE⟩ hz) (λ x54 u9 bV hs=>?_))));refine ⟨aG ke (hs.p2.hb.cell rfl),?_⟩;refine aZ Bc hs (C98 _ (g9 p) _ _ (hs).fB (by omega)) (λ r9 he hs=>aR (aC (λ uq=>?_) (λ uq=>?_)))
          ·refine aA ri (aB (v:=.int .i64 ((x).at_)) bN hs.p2.hb rfl ?_);have hs:=((((((((hs.drop)).drop)).drop)).drop)).drop;exact ⟨_,rfl,by rw [decide_eq_true ti.1]; unfold oA; grind,hs.aE⟩
          ·have hs:=(((((hs.drop)).drop).p2).p2).p2;exact ⟨by grind,hs⟩
         ·have hs:=(hs.drop.p2.p2).p2;exact ⟨by grind,hs⟩
   ·rintro vT ⟨hmid,hs⟩ dd6;refine aA l5 (aB mW hs.hb rfl ?_);have axc:=DL.flat (Ld);refine aA jz (aB pH hs.p1.hb rfl ?_);have apT:=DL.flat (Aq);refine ed Ut (C101 _ _ _ _ _ (axc.ext hs.aE) (apT.ext hs.aE) hzx.2.2.1 (by omega) ti.2.1) ?_;rintro _ yO ⟨a_x65,rfl,axd,he⟩;have hs:=hs.ext he;refine dH (aC (λ oz=>?_) (λ oz=>?_))
    ·have hs:=((((hs.drop)).drop)).drop;exact ⟨_,rfl,by unfold oA; grind,hs.aE⟩
    ·refine aA oc (aB mW hs.hb rfl ?_);have axe:=DL.flat (G0);refine aA jz (aB pH hs.p1.hb rfl (ed Ut (C101 _ _ _ _ _ (axe.ext hs.aE) (apT.ext hs.aE) hzx.2.2.2.1 (by omega) ti.2.2) ?_));rintro _ B6 ⟨a_x73,rfl,axf,he⟩;have hs:=((((((hs.ext he)).drop)).drop)).drop;exact ⟨_,rfl,by unfold oA; grind,hs.aE⟩
theorem C94 (p:cW) (pv:bL) (w:World) (hp:cA.dr w pv p) (hz:PZ p):CR 94 [Flat.val pv] w (λ v w'=>v = .bool (Aj p)∧Ext w w'):=by
 obtain ⟨bF,bQ,bG,aT,aU,aX,rfl,cH,dA,cI,bR,bO,cB⟩:=hp;have hs:=St.start w;refine aix _ _ _ ?_;unfold S94;refine dE hs (λ kK w1 hs=>?_);refine ⟨λ m x w1=>∃ k:Nat,x = .int .i64 (k:Int)∧m=p.lines.length - k∧k≤p.lines.length∧(∀ y∈p.lines.take k,decide (4<(y.length:Int))=false)∧St w bD [cE kK (Flat.enc (⟨bF,bQ,bG,aT,aU,aX⟩:bL))] w1,⟨_,0,rfl,rfl,Nat.zero_le _,by simp,hs⟩,?_⟩;rintro m _ w2 ⟨k,rfl,rfl,hk,fS,hs⟩ fz;have hzl:=hz.lines;refine aA jx (aB r7 hs.hb rfl ?_)
 obtain ⟨axg,ajw,apU⟩:=(cH).open;have hn29:=apU.1;refine aK vM (ajw.ext hs.aE) (aR (aC (λ fH=>?_) (λ fH=>?_)))
 ·refine aA jx (aB r7 hs.hb rfl ?_);obtain ⟨G4,kT⟩:=gx axg (i:=((k:Int)).toNat) (by omega);obtain ⟨mI,kU⟩:=gx ((p).lines) (i:=((k:Int)).toNat) (by omega);have VN:DL w (Flat.val G4) mI:=apU.2 _ _ _ kT kU;refine aQ vM (ajw.ext hs.aE) (by omega) kT (λ _ ug=>aD jF (ug) ?_);have axh:=DL.flat (VN);refine aK j6 (axh.ext hs.aE) (dD (aC (λ fy=>?_) (λ fy=>?_)))
  ·have hs:=(hs).drop;refine ⟨vb ?_,hs.aE⟩;unfold Aj;rw [jH kU (decide_eq_true (by omega))]; rfl
  ·refine aO (by omega) ?_;exact ⟨_,by omega,k+1,rfl,rfl,by omega,eH fS kU (decide_eq_false fy),hs⟩
 ·refine aD gF hs.At ?_;obtain ⟨apV,ajx,apW⟩:=(bR).open;have hn31:=apW.1;obtain ⟨apX,axi,apY⟩:=(bO).open;have hn32:=apY.1;refine ed ans (C95 p _ apV apX _ ⟨bF,bQ,bG,aT,aU,aX,rfl,(cH).ext hs.aE,(dA).ext hs.aE,(cI).ext hs.aE,(bR).ext hs.aE,(bO).ext hs.aE,(cB).ext hs.aE⟩ (ajx.ext hs.aE) (axi.ext hs.aE) (by have:=hz.threads; omega) (by have:=hz.recover; omega)) ?_;rintro VO w3 bV;have hs:=hs.made bV;obtain ⟨yb,Lo⟩:∃ t,t=apV++apX:=⟨_,rfl⟩;rw [← Lo] at hs;have F8:iB yb (iN p) w:=by rw [Lo]; exact iB.append apW apY
  have apZ:=F8.1;have axj:=QE hz.toPS;have hs:=hs.p1.p1;refine ⟨λ m x w1=>∃ kb:Nat,x = .int .i64 (kb:Int)∧m=(iN p).length - kb∧kb≤(iN p).length∧(∀ y∈(iN p).take kb,decide (4<(y.aN.length:Int))=false)∧St w bD [bK VO yb,cE kK (Flat.enc (⟨bF,bQ,bG,aT,aU,aX⟩:bL))] w1,⟨_,0,rfl,rfl,Nat.zero_le _,by simp,hs⟩,?_⟩;rintro m _ w4 ⟨kb,rfl,rfl,hkb,NN,hs⟩ jB;refine aK iP (hs).fB (aR (aC (λ fD=>?_) (λ fD=>?_)))
  ·obtain ⟨Ef,lG⟩:=gx yb (i:=((kb:Int)).toNat) (by omega);obtain ⟨ap0,wG⟩:=gx ((iN p)) (i:=((kb:Int)).toNat) (by omega);obtain ⟨EF,EG,rfl,EH,EI⟩:=F8.2 _ _ _ lG wG;refine aQ iP (hs).fB (by omega) lG (λ _ ow=>bT EF jz ow rfl rfl (λ _ oO=>aD pH (oO) ?_));have axk:=DL.flat (EH);refine aK mX (axk.ext hs.aE) (dD (aC (λ iI=>?_) (λ iI=>?_)))
   ·have hs:=((hs.drop)).drop;refine ⟨vb ?_,hs.aE⟩;unfold Aj;rw [jH wG (decide_eq_true (by omega))]; simp
   ·refine aO (by omega) ?_;exact ⟨_,by omega,kb+1,rfl,rfl,by omega,eH NN wG (decide_eq_false (by omega)),hs⟩
  ·refine ⟨λ jv w'=>jv = .bool (decide (4<(p.lines.length:Int)) || decide (4<(p.jV.length:Int)) || decide (2<(p.locks.length:Int)) || decide ((p.threads.length:Int)<1) || decide (3<(p.threads.length:Int)) || decide (4<(p.cC.length:Int)))∧St w bD [] w',?_,?_⟩
   ·refine aA jx (aB r7 hs.p1.hb rfl (aK vM (ajw.ext hs.aE) (dD (aC (λ mi=>?_) (λ mi=>?_)))))
    ·have hs:=((hs.drop)).drop;exact ⟨vb (by grind),hs⟩
    ·refine aA uT (aB jF hs.p1.hb rfl ?_);have axl:=DL.flat (dA);refine aK j6 (axl.ext hs.aE) (dD (aC (λ uj=>?_) (λ uj=>?_)))
     ·have hs:=((hs.drop)).drop;exact ⟨vb (by grind),hs⟩
     ·refine aA si (aB jF hs.p1.hb rfl ?_);have axm:=DL.flat (cI);refine aK j6 (axm.ext hs.aE) (dD (aC (λ vF=>?_) (λ vF=>?_)))
      ·have hs:=((hs.drop)).drop;exact ⟨vb (by grind),hs⟩
      ·refine aA nj (aB jh hs.p1.hb rfl (aK iP (ajx.ext hs.aE) (aR (aC (λ EA=>?_) (λ EA=>?_)))))
       ·have hs:=((hs.drop)).drop;exact ⟨vb (by grind),hs⟩
       ·refine aA nj (aB jh hs.p1.hb rfl (aK iP (ajx.ext hs.aE) (dD (aC (λ kz=>?_) (λ kz=>?_)))))
        ·have hs:=((hs.drop)).drop;exact ⟨vb (by grind),hs⟩
        ·refine aA kR (aB sZ hs.p1.hb rfl ?_);obtain ⟨ts36,axn,axo⟩:=(cB).open;have hn36:=axo.1;refine aK yM (axn.ext hs.aE) (dD ?_);have hs:=((hs.drop)).drop;exact ⟨vb (by grind),hs⟩
   ·rintro _ w5 ⟨rfl,hs⟩ oN;refine ⟨vb ?_,hs.aE⟩;unfold Aj;rw [iM (by rw [List.take_of_length_le (by omega)] at fS; exact fS),iM (by rw [List.take_of_length_le (by omega)] at NN; exact NN)]; rfl
theorem C40 (p:cW) (pv:bL) (w:World) (hp:cA.dr w pv p) (hz:PZ p):CR 40 [Flat.val pv] w (λ v w'=>∃ a:Int,v = .tuple #[.int .i64 (gK p),.int .i64 a]∧Ext w w'):=by
 obtain ⟨bF,bQ,bG,aT,aU,aX,rfl,cH,dA,cI,bR,bO,cB⟩:=hp;have hs:=St.start w;refine ahP _ _ _ ?_;unfold S40;refine dE hs (λ kK w1 hs=>aD gF hs.At (aZ avr hs (C93 p _ _ ⟨bF,bQ,bG,aT,aU,aX,rfl,(cH).ext hs.aE,(dA).ext hs.aE,(cI).ext hs.aE,(bR).ext hs.aE,(bO).ext hs.aE,(cB).ext hs.aE⟩ hz) (λ w2 he hs=>bZ (aY (λ mc=>?_) (λ mc=>?_)))))
 ·have hs:=(hs).drop;exact ⟨_,congrArg (λ q=>Value.tuple #[.int .i64 q,_]) (ce8 (by simpa using mc)).symm,hs.aE⟩
 ·have hrp:me p=true:=by simpa using mc
  have hPF:=wD hrp;refine aD gF hs.At (aZ avs hs (C94 p _ _ ⟨bF,bQ,bG,aT,aU,aX,rfl,(cH).ext hs.aE,(dA).ext hs.aE,(cI).ext hs.aE,(bR).ext hs.aE,(bO).ext hs.aE,(cB).ext hs.aE⟩ hz) (λ w3 he hs=>aY (λ fy=>?_) (λ fy=>?_)))
  ·have hs:=(hs).drop;exact ⟨_,congrArg (λ q=>Value.tuple #[.int .i64 q,_]) (ce2 hrp fy).symm,hs.aE⟩
  ·refine aD gF hs.At ?_;obtain ⟨ap1,axp,ap2⟩:=(bR).open;have hn37:=ap2.1;obtain ⟨ap3,axq,ap4⟩:=(bO).open;have hn38:=ap4.1;refine ed ans (C95 p _ ap1 ap3 _ ⟨bF,bQ,bG,aT,aU,aX,rfl,(cH).ext hs.aE,(dA).ext hs.aE,(cI).ext hs.aE,(bR).ext hs.aE,(bO).ext hs.aE,(cB).ext hs.aE⟩ (axp.ext hs.aE) (axq.ext hs.aE) (by have:=hz.threads; omega) (by have:=hz.recover; omega)) ?_;rintro VO w4 bV;have hs:=hs.made bV;obtain ⟨yb,Lo⟩:∃ t,t=ap1++ap3:=⟨_,rfl⟩;rw [← Lo] at hs;have F8:iB yb (iN p) w:=by rw [Lo]; exact iB.append ap2 ap4
   have apZ:=F8.1;have axj:=QE hz.toPS;have hs:=hs.p1.p1;refine ⟨λ m x w1=>∃ k1:Nat,x = .int .i64 (k1:Int)∧m=(iN p).length - k1∧k1≤(iN p).length∧(∀ y∈(iN p).take k1,vE y.body=false)∧St w bD [bK VO yb,cE kK (Flat.enc (⟨bF,bQ,bG,aT,aU,aX⟩:bL))] w1,⟨_,0,rfl,rfl,Nat.zero_le _,by simp,hs⟩,?_⟩;rintro m _ w5 ⟨k1,rfl,rfl,TP,ajy,hs⟩ fz;refine aK iP (hs).fB (aR (aC (λ fD=>?_) (λ fD=>?_)))
   ·obtain ⟨Ef,lG⟩:=gx yb (i:=((k1:Int)).toNat) (by omega);obtain ⟨ap0,wG⟩:=gx ((iN p)) (i:=((k1:Int)).toNat) (by omega);obtain ⟨EF,EG,rfl,EH,EI⟩:=F8.2 _ _ _ lG wG;refine aQ iP (hs).fB (by omega) lG (λ _ ow=>bT EG qI ow rfl rfl (λ _ oO=>aD te (oO) ?_));obtain ⟨hb40,Nh,tr,htr,IN,nP,_⟩:=nJ (hPF.mP (List.mem_of_getElem? wG)).2.1;have Cw:=congrArg List.length htr;rw [Bk.cR] at Cw;refine ed aiF (C96 _ tr 1 (tr.len+1) _ (by rw [← htr]; exact (EI.ext hs.aE)) IN (λ y hy=>NM (Nh y (by rw [htr]; exact hy))) (by omega) (by omega) (by omega)) ?_
    rintro _ w6 ⟨wa,rfl,hwa,he⟩;have hs:=hs.ext he;refine dH (aC (λ jC=>?_) (λ jC=>?_))
    ·have hs:=((hs.drop)).drop;exact ⟨_,congrArg (λ q=>Value.tuple #[.int .i64 q,_]) (awN hrp fy (jH wG (by rw [htr,yU IN,← hwa]; exact decide_eq_true jC))).symm,hs.aE⟩
    ·refine aO (by omega) ?_;have hs:=hs.p1.p1;exact ⟨_,by omega,k1+1,rfl,rfl,by omega,eH ajy wG (by rw [htr,yU IN,← hwa]; exact decide_eq_false jC),hs⟩
   ·rw [List.take_of_length_le (by omega)] at ajy;have vP:(iN p).any (λ t=>vE t.body)=false:=iM ajy;refine aD gF hs.p1.At (ed avt (C97 p _ _ ⟨bF,bQ,bG,aT,aU,aX,rfl,(cH).ext hs.aE,(dA).ext hs.aE,(cI).ext hs.aE,(bR).ext hs.aE,(bO).ext hs.aE,(cB).ext hs.aE⟩ hz hPF.decl) ?_);rintro _ w7 ⟨a_x38,rfl,VP,he⟩;have hs:=hs.ext he;refine dH (aC (λ qB=>?_) (λ qB=>?_))
    ·have hs:=((hs.drop)).drop;exact ⟨_,congrArg (λ q=>Value.tuple #[.int .i64 q,_]) (awO hrp fy vP (by rw [← VP]; exact decide_eq_true qB)).symm,hs.aE⟩
    ·have h10:rF (jJ p)=false:=by rw [← VP]; exact decide_eq_false qB
     have hs:=hs.p1.p1;refine ⟨λ m x w1=>∃ k2:Nat,x = .int .i64 (k2:Int)∧m=(iN p).length - k2∧k2≤(iN p).length∧(∀ y∈(iN p).take k2,F7 p y.aN=false)∧St w bD [bK VO yb,cE kK (Flat.enc (⟨bF,bQ,bG,aT,aU,aX⟩:bL))] w1,⟨_,0,rfl,rfl,Nat.zero_le _,by simp,hs⟩,?_⟩;rintro m _ w8 ⟨k2,rfl,rfl,JG,Eu,hs⟩ jB;refine aK iP (hs).fB (aR (aC (λ kN=>?_) (λ kN=>?_)))
     ·obtain ⟨ap5,wH⟩:∃ xx,yb[((k2:Int)).toNat]? = some xx:=⟨_,List.getElem?_eq_getElem (by omega)⟩;obtain ⟨Ar,IP⟩:∃ xx,((iN p))[((k2:Int)).toNat]? = some xx:=⟨_,List.getElem?_eq_getElem (by omega)⟩;obtain ⟨yW,ajA,rfl,NO,ajB⟩:=F8.2 _ _ _ wH IP;have hzt2:=hz.mP (List.mem_of_getElem? IP);refine ⟨λ m x w1=>∃ k3:Nat,x = .int .i64 (k3:Int)∧m=Ar.aN.length - k3∧k3≤Ar.aN.length∧(∀ j,j<k3→QD p Ar.aN j=false)∧St w bD [bK VO yb,cE kK (Flat.enc (⟨bF,bQ,bG,aT,aU,aX⟩:bL))] w1,⟨_,0,rfl,rfl,Nat.zero_le _,by simp,hs⟩,?_⟩
      rintro m _ w9 ⟨k3,rfl,rfl,hk3,ap6,hs⟩ oN;refine aQ iP (hs).fB (by omega) wH (λ _ yx=>bT yW jz yx rfl rfl (λ _ ap7=>aD pH (ap7) ?_));have ajC:=DL.flat (NO);refine aK mX (ajC.ext hs.aE) (aR (aC (λ EA=>?_) (λ EA=>?_)))
      ·refine aQ iP (hs).fB (by omega) wH (λ _ ap8=>bT yW jz ap8 rfl rfl (λ _ VQ=>aD pH (VQ) ?_));obtain ⟨G6,wI⟩:=gx ((Ar).aN) (i:=((k3:Int)).toNat) (by omega);refine aQ mX (ajC.ext hs.aE) (by omega) wI (λ _ Ev=>aD ke (Ev) ?_);refine ⟨λ jv w'=>jv = .bool (decide (dQ Ar.aN G6<k3) || decide (0≤dQ (fe p) G6) || decide (0≤dQ (g9 p) G6))∧St w bD [bK VO yb,cE kK (Flat.enc (⟨bF,bQ,bG,aT,aU,aX⟩:bL))] w',?_,?_⟩
       ·refine aQ iP (hs).fB (by omega) wH (λ _ ap9=>bT yW jz ap9 rfl rfl (λ _ VR=>aD pH (VR) (aZ Bc hs (C98 _ (Ar).aN _ _ (ajC.ext hs.aE) (by have:=mg hz.toPS; have hk:(g9 p).length≤500:=(by unfold g9; rw [List.length_map]; exact hz.locks); omega)) (λ pP he hs=>aR (aC (λ VD=>?_) (λ VD=>?_))))))
        ·have hs:=hs.p1.p1;exact ⟨vb (by grind),hs⟩
        ·refine aD gF hs.p1.At (cZ Un hs (C46 p _ _ ⟨bF,bQ,bG,aT,aU,aX,rfl,(cH).ext hs.aE,(dA).ext hs.aE,(cI).ext hs.aE,(bR).ext hs.aE,(bO).ext hs.aE,(cB).ext hs.aE⟩ hz) (λ x77 sB bV hs=>aZ Bc hs (C98 _ (fe p) _ _ (hs).fB (by have:=mg hz.toPS; have hk:(g9 p).length≤500:=(by unfold g9; rw [List.length_map]; exact hz.locks); omega)) (λ u7 he hs=>dH (aC (λ VS=>?_) (λ VS=>?_)))))
         ·have hs:=(hs.drop.p1).p1;exact ⟨vb (by grind),hs⟩
         ·refine aD gF hs.p2.At (cZ aiG hs (C99 p _ _ ⟨bF,bQ,bG,aT,aU,aX,rfl,(cH).ext hs.aE,(dA).ext hs.aE,(cI).ext hs.aE,(bR).ext hs.aE,(bO).ext hs.aE,(cB).ext hs.aE⟩ hz) (λ x84 u9 bV hs=>aZ Bc hs (C98 _ (g9 p) _ _ (hs).fB (by have:=mg hz.toPS; have hk:(g9 p).length≤500:=(by unfold g9; rw [List.length_map]; exact hz.locks); omega)) (λ r9 he hs=>dH ?_)));have hs:=((((hs.drop)).drop).p1).p1;exact ⟨vb (by grind),hs⟩
       ·rintro _ vT ⟨rfl,hs⟩ F6;refine aY (λ EJ=>?_) (λ EJ=>?_)
        ·refine aQ iP (hs).fB (by omega) wH (λ _ aqa=>bT (Ar).at_ zP aqa rfl rfl (λ _ VT=>have hs:=hs.drew;aD bN (VT) ?_));have hs:=((hs.drop)).drop;exact ⟨_,congrArg (λ q=>Value.tuple #[.int .i64 q,_]) (apA hrp fy vP h10 (jH IP (show F7 p Ar.aN=true from rG (j:=k3) (by omega) (by rw [QF (k:=k3) wI]; exact EJ)))).symm,hs.aE⟩
        ·refine aO (by omega) ?_;exact ⟨_,by omega,k3+1,rfl,rfl,by omega,Ai ap6 (by rw [QF (k:=k3) wI]; exact EJ),hs⟩
      ·refine aO (by omega) ?_;have hs:=hs.p1.p1;exact ⟨_,by omega,k2+1,rfl,rfl,by omega,eH Eu IP (show F7 p Ar.aN=false from ng (λ j hj=>ap6 j (by omega))),hs⟩
     ·rw [List.take_of_length_le (by omega)] at Eu;have ajD:(iN p).any (λ t=>F7 p t.aN)=false:=iM Eu;have hs:=hs.p1.p1;refine ⟨λ m x w1=>∃ k5:Nat,x = .int .i64 (k5:Int)∧m=(iN p).length - k5∧k5≤(iN p).length∧(∀ y∈(iN p).take k5,y.body.any (oA p y.aN)=false)∧St w bD [bK VO yb,cE kK (Flat.enc (⟨bF,bQ,bG,aT,aU,aX⟩:bL))] w1,⟨_,0,rfl,rfl,Nat.zero_le _,by simp,hs⟩,?_⟩;rintro m _ yO ⟨k5,rfl,rfl,hk5,ajE,hs⟩ QC;refine aK iP (hs).fB (aR (aC (λ aqb=>?_) (λ aqb=>?_)))
      ·obtain ⟨axr,C3⟩:∃ xx,yb[((k5:Int)).toNat]? = some xx:=⟨_,List.getElem?_eq_getElem (by omega)⟩;obtain ⟨By,As⟩:∃ xx,((iN p))[((k5:Int)).toNat]? = some xx:=⟨_,List.getElem?_eq_getElem (by omega)⟩;obtain ⟨Lp,wJ,rfl,Lq,Ca⟩:=F8.2 _ _ _ C3 As;have aqc:=hz.mP (List.mem_of_getElem? As);have axs:=hPF.mP (List.mem_of_getElem? As);obtain ⟨hb45,aqd,_⟩:=nJ axs.2.1;refine ⟨λ m x w1=>∃ k6:Nat,x = .int .i64 (k6:Int)∧m=By.body.length - k6∧k6≤By.body.length∧(∀ y∈By.body.take k6,oA p By.aN y=false)∧St w bD [bK VO yb,cE kK (Flat.enc (⟨bF,bQ,bG,aT,aU,aX⟩:bL))] w1,⟨_,0,rfl,rfl,Nat.zero_le _,by simp,hs⟩,?_⟩
       rintro m _ B6 ⟨k6,rfl,rfl,hk6,ajF,hs⟩ dd6;refine aQ iP (hs).fB (by omega) C3 (λ _ ajG=>bT wJ qI ajG rfl rfl (λ _ ajH=>aD te (ajH) ?_));obtain ⟨axt,aqe,aqf⟩:=(Ca).open;have hn40:=aqf.1;refine aK j7 (aqe.ext hs.aE) (aR (aC (λ ajI=>?_) (λ ajI=>?_)))
       ·have hs:=hs.drew;refine aD gF hs.p1.At (aQ iP (hs).fB (by omega) C3 (λ _ NP=>aD Is (NP) (aQ iP (hs).fB (by omega) C3 (λ _ ajJ=>bT wJ qI ajJ rfl rfl (λ _ ajK=>aD te (ajK) ?_)))));obtain ⟨axu,QL⟩:=gx axt (i:=((k6:Int)).toNat) (by omega);obtain ⟨ajL,Au⟩:=gx ((By).body) (i:=((k6:Int)).toNat) (by omega);obtain ⟨VU,VV,rfl,VW,VX⟩:=aqf.2 _ _ _ QL Au;refine aQ j7 (aqe.ext hs.aE) (by omega) QL (λ _ ajM=>aD fX (ajM) ?_);have hf5:=ac5 (aqd _ (List.mem_of_getElem? Au));refine ed ant (C100 p _ By _ ajL _ _ ⟨bF,bQ,bG,aT,aU,aX,rfl,(cH).ext hs.aE,(dA).ext hs.aE,(cI).ext hs.aE,(bR).ext hs.aE,(bO).ext hs.aE,(cB).ext hs.aE⟩ ⟨Lp,wJ,rfl,(Lq).ext hs.aE,(Ca).ext hs.aE⟩ ⟨VU,VV,rfl,(VW).ext hs.aE,(VX).ext hs.aE⟩ hz aqc.2.1 (aqc.1.2.2 _ (List.mem_of_getElem? Au)) hf5) ?_
        rintro _ GQ ⟨axv,rfl,QM,he⟩;have hs:=hs.ext he;refine dH (aC (λ yX=>?_) (λ yX=>?_))
        ·have hs:=((hs.drop)).drop;exact ⟨_,congrArg (λ q=>Value.tuple #[.int .i64 q,_]) (ce9 hrp fy vP h10 ajD (jH As (jH Au (by rw [← QM]; exact decide_eq_true yX)))).symm,hs.aE⟩
        ·refine aO (by omega) ?_;exact ⟨_,by omega,k6+1,rfl,rfl,by omega,eH ajF Au (by rw [← QM]; exact decide_eq_false yX),hs⟩
       ·refine aO (by omega) ?_;have hs:=hs.p1.p1;exact ⟨_,by omega,k5+1,rfl,rfl,by omega,eH ajE As (iM (by rw [List.take_of_length_le (by omega)] at ajF; exact ajF)),hs⟩
      ·rw [List.take_of_length_le (by omega)] at ajE;have h9:(iN p).any (λ t=>t.body.any (oA p t.aN))=false:=iM ajE;have hs:=hs.drew;refine aD gF hs.p1.At (aD gF hs.p1.At (cZ Un hs (C46 p _ _ ⟨bF,bQ,bG,aT,aU,aX,rfl,(cH).ext hs.aE,(dA).ext hs.aE,(cI).ext hs.aE,(bR).ext hs.aE,(bO).ext hs.aE,(cB).ext hs.aE⟩ hz) (λ axw IF bV hs=>?_)));refine ⟨eU gF hs.p2.At,?_⟩;refine aZ Zx hs (C41 p _ _ ⟨bF,bQ,bG,aT,aU,aX,rfl,(cH).ext hs.aE,(dA).ext hs.aE,(cI).ext hs.aE,(bR).ext hs.aE,(bO).ext hs.aE,(cB).ext hs.aE⟩ hz) (λ JH he hs=>?_)
       have QK:=mg hz.toPS;have hsl:0≤eC p∧eC p≤(fe p).length:=by unfold eC fe gJ; rw [List.length_map,List.length_append]; omega
       refine l8 mX (hs).fB (by omega) (by omega) (λ axx adf=>?_);have hs:=(hs.p1.drop.p1).p1;refine ⟨λ m x w1=>∃ k7:Nat,x = .int .i64 (k7:Int)∧m=p.cC.length - k7∧k7≤p.cC.length∧(∀ y∈p.cC.take k7,vD y.e (o7 p)=false)∧St w bD [bK axw (fe p),cE kK (Flat.enc (⟨bF,bQ,bG,aT,aU,aX⟩:bL))] w1,⟨_,0,rfl,rfl,Nat.zero_le _,by simp,hs⟩,?_⟩;rintro m _ Lr ⟨k7,rfl,rfl,hk7,ajN,hs⟩ dd7;have hzc:=hz.cC;refine aA kR (aB sZ hs.p1.hb rfl ?_);obtain ⟨axy,aqg,aqh⟩:=(cB).open;have hn41:=aqh.1;refine aK yM (aqg.ext hs.aE) (aR (aC (λ NQ=>?_) (λ NQ=>?_)))
       ·refine aA kR (aB sZ hs.p1.hb rfl ?_);obtain ⟨axz,QN⟩:=gx axy (i:=((k7:Int)).toNat) (by omega);obtain ⟨axA,Av⟩:=gx ((p).cC) (i:=((k7:Int)).toNat) (by omega);obtain ⟨VY,rfl,VZ⟩:=aqh.2 _ _ _ QN Av;refine aQ yM (aqg.ext hs.aE) (by omega) QN (λ _ NR=>bT VY CU NR rfl rfl (λ _ ajO=>aD mW (ajO) ?_));have axB:=DL.flat (VZ);refine ed Ut (C101 _ _ _ _ _ (axB.ext hs.aE) (adf _ (hs).fB) (hz.zc _ (List.mem_of_getElem? Av)).1 (by have:=mg hz.toPS; simp; omega) (Bt (hPF.cl _ (List.mem_of_getElem? Av)).2)) ?_;rintro _ NS ⟨axC,rfl,QO,he⟩
        have hs:=hs.ext he;refine dH (aC (λ NT=>?_) (λ NT=>?_))
        ·have hs:=((hs.drop)).drop;exact ⟨_,congrArg (λ q=>Value.tuple #[.int .i64 q,_]) (awP hrp fy vP h10 ajD h9 (jH Av (by unfold o7; rw [← QO]; exact decide_eq_true NT))).symm,hs.aE⟩
        ·refine aO (by omega) ?_;exact ⟨_,by omega,k7+1,rfl,rfl,by omega,eH ajN Av (by unfold o7; rw [← QO]; exact decide_eq_false NT),hs⟩
       ·have hs:=((hs.drop)).drop;exact ⟨_,congrArg (λ q=>Value.tuple #[.int .i64 q,_]) (ce0 hrp fy vP h10 ajD h9 (iM (by rw [List.take_of_length_le (by omega)] at ajN; exact ajN))).symm,hs.aE⟩
theorem Bk.NU {x:cG} {a b r:Bk} (h:(Bk.cons x a b r).str) {hi lo:Int} (h1:hi=1+x.body) (h2:lo=1):((Bk.cons x a b r).flat.take hi.toNat).drop lo.toNat=a.flat:=by
 obtain ⟨g1,g2,_⟩:=h
 have la:=a.cR
 rw [Em _ (a:=1) (n:=a.flat.length) (by omega) (by omega)]
 show (a.flat++(b.flat++r.flat)).take _=_
 rw [List.take_left]
theorem Bk.adg {x:cG} {a b r:Bk} (h:(Bk.cons x a b r).str) {hi lo:Int} (h1:hi=1+x.body+x.fJ) (h2:lo=1+x.body):((Bk.cons x a b r).flat.take hi.toNat).drop lo.toNat=b.flat:=by
 obtain ⟨g1,g2,_⟩:=h
 have la:=a.cR
 have lb:=b.cR
 rw [Em _ (a:=1+a.flat.length) (n:=b.flat.length) (by omega) (by omega)]
 have e:(Bk.cons x a b r).flat=(x::a.flat)++(b.flat++r.flat):=by simp [Bk.flat]
 rw [e,show 1+a.flat.length=(x::a.flat).length from by simp; omega,List.drop_left,List.take_left]
def EK (k:Int):Int:=if k=2∨k=4∨k=8∨k=9∨k=10 then 1 else if k=3∨k=5∨k=6∨k=7 then 2 else 0
theorem V0 (k:Int):0≤EK k∧EK k≤2:=by
 unfold EK
 repeat' split
 all_goals omega
def sb:Bk→Int
 | .nil=>0
 | .cons x a b r=>(if x.kind=12 then x.n * sb a else if x.kind=11 then max (sb a) (sb b) else EK x.kind)+sb r
def kC (t:Bk):Prop:=∀ x∈t.flat,x.kind=12→1≤x.n∧x.n≤8
theorem kC.a {x:cG} {a b r:Bk} (h:kC (.cons x a b r)):kC a:=λ y hy=>h y (by simp [Bk.flat,hy])
theorem kC.b {x:cG} {a b r:Bk} (h:kC (.cons x a b r)):kC b:=λ y hy=>h y (by simp [Bk.flat,hy])
theorem kC.r {x:cG} {a b r:Bk} (h:kC (.cons x a b r)):kC r:=λ y hy=>h y (by simp [Bk.flat,hy])
theorem kC.x {x:cG} {a b r:Bk} (h:kC (.cons x a b r)):x.kind=12→1≤x.n∧x.n≤8:=h x (by simp [Bk.flat])
theorem adh (t:Bk):kC t→0≤sb t:=by
 induction t with
 | nil=>intro _; simp [sb]
 | cons x a b r vO xY GY=>
  intro h
  have h1:=vO h.a
  have h2:=xY h.b
  have h3:=GY h.r
  have hc:=V0 x.kind
  unfold sb
  split
  ·rename_i hk
   have:=Int.mul_nonneg (a:=x.n) (by have:=h.x hk; omega) h1
   omega
  ·split <;> omega
def bW:Bk→Int
 | .nil=>0
 | .cons x a b r=>(if x.kind=12 then 2+bW a else if x.kind=11 then (if 0<x.fJ then 1+bW a+bW b+1 else 1+bW a+bW b) else 1)+bW r
theorem iX (t:Bk):0≤bW t∧bW t≤2 * t.len:=by
 induction t with
 | nil=>simp [bW,Bk.len]
 | cons x a b r vO xY GY=>
  unfold bW Bk.len
  repeat' split
  all_goals omega
def iY:Bk→Int
 | .nil=>0
 | .cons x a b r=>max (if x.kind=12 then max (iY a) (iY b)+1 else max (iY a) (iY b)) (iY r)
theorem tj (t:Bk):0≤iY t∧iY t≤t.len:=by
 induction t with
 | nil=>simp [iY,Bk.len]
 | cons x a b r vO xY GY=>
  unfold iY Bk.len
  split <;> omega
def lH (p:cW) (rs:List ByteArray) (x:cG):aW:=
 ⟨if x.kind=14 then 15 else x.kind,max 0 (dQ rs x.gP),
  if x.kind=2∨x.kind=3∨x.kind=4 then dQ (fe p) x.name else if x.kind=5∨x.kind=6 then mf p (dQ (fe p) x.name) else if x.kind=9∨x.kind=10 then dQ (g9 p) x.name else 0,
  gg rs x.e,gg rs x.f,0⟩
def rI (x:cG) (a:Bk) (at_:Int):Int:=if 0<x.fJ then at_+1+bW a+1 else at_+1+bW a
def eT (p:cW) (rs:List ByteArray):Bk→Int→Int→Int→List aW
 | .nil,_,_,_=>[]
 | .cons x a b r,at_,lp,out=>
  (if x.kind=11 then [⟨12,0,0,gg rs x.e,[],rI x a at_⟩]++eT p rs a (at_+1) lp out++(if 0<x.fJ then [⟨11,0,0,[],[],rI x a at_+bW b⟩] else [])++eT p rs b (rI x a at_) lp out
   else if x.kind=12 then [⟨13,lp,x.n,[],[],0⟩]++eT p rs a (at_+1) (lp+1) (at_+2+bW a)++[⟨14,lp,0,[],[],at_+1⟩]
   else if x.kind=13 then [⟨11,0,0,[],[],out⟩] else [lH p rs x])++
  eT p rs r (at_+(bW (.cons x a b r) - bW r)) lp out
theorem ia (p:cW) (rs:List ByteArray) (t:Bk):∀ at_ lp out,((eT p rs t at_ lp out).length:Int)=bW t:=by
 induction t with
 | nil=>intro _ _ _; rfl
 | cons x a b r vO xY GY=>
  intro at_ lp out
  unfold eT
  rw [List.length_append,Int.natCast_add,GY]
  rw [show bW (.cons x a b r)=(if x.kind=12 then 2+bW a else if x.kind=11 then (if 0<x.fJ then 1+bW a+bW b+1 else 1+bW a+bW b) else 1)+bW r from rfl]
  congr 1
  by_cases h1:x.kind=11
  ·simp only [if_pos h1,if_neg (show ¬ x.kind=12 by omega)]
   have ha:=vO (at_+1) lp out
   have hb:=xY (rI x a at_) lp out
   by_cases h2:0<x.fJ
   ·simp only [if_pos h2,List.length_append,List.length_singleton]; omega
   ·simp only [if_neg h2,List.length_append,List.length_singleton,List.length_nil]; omega
  ·simp only [if_neg h1]
   by_cases h2:x.kind=12
   ·have ha:=vO (at_+1) (lp+1) (at_+2+bW a)
    simp only [if_pos h2,List.length_append,List.length_singleton]; omega
   ·simp only [if_neg h2]
    split <;> simp
def mj (p:cW) (t:dS):fq:=match oZ t.body with | some b=>⟨t.aN.length,iY b,eT p t.aN b 0 0 0⟩ | none=>⟨t.aN.length,0,[]⟩
def eu (p:cW):ir:=
 ⟨(List.range (gJ p).length).map (fun (i:Nat)=>mf p i),eC p,pz p,p.locks.length,p.threads.map (mj p),(match p.recover[0]? with | some t=>mj p t | none=>⟨0,0,[]⟩),p.cC.map (λ c=>gg (o7 p) c.e)⟩
theorem C158 (lv:Value) (t:Bk) (N:Nat) (w:World) (hL:DL w lv t.flat) (gn:t.str) (hl:t.len≤1048576) (hN:t.len<N):CR 158 [lv] w (λ v w'=>v = .int .i64 (bW t)∧Ext w w'):=by
 have Cw:=t.cR;have hs:=St.start w;refine aah _ _ _ ?_;unfold S158;obtain ⟨axD,F9,Sx⟩:=(hL).open;have hn43:=Sx.1;refine aK j7 (F9.ext hs.aE) (aH (aC (λ gw=>?_) (λ gw=>?_)))
 ·cases t with
  | nil=>exact ⟨rfl,hs.aE⟩
  | cons x a b r=>exact absurd Cw (by rw [show (Bk.cons x a b r).len=a.len+b.len+r.len+1 from rfl]; omega)
 ·obtain ⟨x,a,b,r,rfl⟩:=Bk.C2 (t:=t) (by omega);obtain ⟨af5,wB⟩:=gx axD (i:=((0:Int)).toNat) (by omega);obtain ⟨fm,vc⟩:=gx ((Bk.cons x a b r).flat) (i:=((0:Int)).toNat) (by omega);obtain ⟨xy,xz,rfl,adi,adj⟩:=Sx.2 _ _ _ wB vc;refine aQ j7 F9 (by omega) wB (λ _ Lc=>?_);obtain rfl:fm=x:=(Option.some.inj vc).symm;have Lm:=gn;obtain ⟨FK,hg2,hg3,hg4,VK,hgb,hgr⟩:=Lm;have TT:a.len+b.len+r.len+1≤1048576:=hl;have hNn:a.len+b.len+r.len+1<N:=hN;have MP:=a.cR;have QB:=b.cR;have hlr:=r.cR;have QH:(Bk.cons fm a b r).flat.length=a.len+b.len+r.len+1:=Bk.cR _
  have hsa:=iX a;have hsb:=iX b;have hsr:=iX r;refine aD fX (Lc.ext hs.aE) (aJ hs qJ (λ Ls w1 hs=>have hs:=hs.enc (cs':=Flat.enc (⟨0,(ByteArray.mk #[]),(ByteArray.mk #[]),⟨none,0,0⟩,⟨none,0,0⟩,0,0,0,0⟩:bY)) rfl;aI (x:=(⟨(fm).kind,(fm).gP,(fm).name,xy,xz,(fm).n,(fm).body,(fm).fJ,(fm).at_⟩:bY)) hs fX rfl rfl (λ w2 hs=>aA m6 (have hs:=hs.drew;aB (v:=.int .i64 ((fm).body)) bN hs.hb rfl (aO (by omega) (aA iQ (aB (v:=.int .i64 ((fm).fJ)) bN hs.hb rfl (aO (by omega) ?_))))))));refine ⟨λ jv w'=>∃ n1:Int,jv = .int .i64 n1∧n1=(if fm.kind=11 then (if 0<fm.fJ then 1+bW a+bW b+1 else 1+bW a+bW b) else 1)∧0≤n1∧n1≤4000000∧St w bD [cE Ls (Flat.enc (⟨(fm).kind,(fm).gP,(fm).name,xy,xz,(fm).n,(fm).body,(fm).fJ,(fm).at_⟩:bY))] w',?_,?_⟩
  ·refine aA fC (aB (v:=.int .i64 ((fm).kind)) bN hs.hb rfl (aH (aC (λ iu=>?_) (λ iu=>?_))))
   ·refine kx j7 (F9.ext hs.aE) (by omega) (by omega) (by omega) (λ aqk ajP=>?_);have ajQ:=DL.cut ajP F9 Sx;refine kx j7 (F9.ext hs.aE) (by omega) (by omega) (by omega) (λ V1 ajR=>?_);have ajS:=DL.cut ajR F9 Sx;have hs:=hs.drew;refine aZ Dy hs (C158 _ a (N - 1) _ (by have h:=ajQ.ext hs.aE; rw [Bk.NU gn (by omega) (by omega)] at h; exact h) VK (by omega) (by omega)) (λ w3 he hs=>aO (by omega) (aZ Dy hs (C158 _ b (N - 1) _ (by have h:=ajS.ext hs.aE; rw [Bk.adg gn (by omega) (by omega)] at h; exact h) hgb (by omega) (by omega)) (λ w4 he hs=>aO (by omega) (aA iQ (aB (v:=.int .i64 ((fm).fJ)) bN hs.hb rfl (dD (aC (λ lx=>?_) (λ lx=>?_))))))))
    ·refine aO (by omega) ?_;exact ⟨_,rfl,by grind,by omega,by omega,hs⟩
    ·exact ⟨_,rfl,by grind,by omega,by omega,hs⟩
   ·exact ⟨_,rfl,by grind,by omega,by omega,hs⟩
  ·rintro _ w5 ⟨n1,rfl,Vp,axE,apC,hs⟩ fz;refine ⟨λ jv w'=>∃ n2:Int,jv = .int .i64 n2∧n2=(if fm.kind=12 then 2+bW a else if fm.kind=11 then (if 0<fm.fJ then 1+bW a+bW b+1 else 1+bW a+bW b) else 1)∧0≤n2∧n2≤4000000∧St w bD [cE Ls (Flat.enc (⟨(fm).kind,(fm).gP,(fm).name,xy,xz,(fm).n,(fm).body,(fm).fJ,(fm).at_⟩:bY))] w',?_,?_⟩
   ·refine aA fC (aB (v:=.int .i64 ((fm).kind)) bN hs.hb rfl (aH (aC (λ j3=>?_) (λ j3=>?_))))
    ·refine kx j7 (F9.ext hs.aE) (by omega) (by omega) (by omega) (λ aql ajT=>?_);have ajU:=DL.cut ajT F9 Sx;refine aZ Dy hs (C158 _ a (N - 1) _ (by have h:=ajU.ext hs.aE; rw [Bk.NU gn (by omega) (by omega)] at h; exact h) VK (by omega) (by omega)) (λ w6 he hs=>aO (by omega) ?_);exact ⟨_,rfl,by grind,by omega,by omega,hs⟩
    ·exact ⟨_,rfl,by grind,by omega,by omega,hs⟩
   ·rintro _ w7 ⟨n2,rfl,hn2,aw1,hn21,hs⟩ jB;refine u3 j7 (F9.ext hs.aE) (by omega) (by omega) (λ V2 ajV=>?_);have ajW:=DL.Qr ajV F9 Sx;refine aZ Dy hs (C158 _ r (N - 1) _ (by have h:=ajW.ext hs.aE; rw [Bk.ada gn (by omega)] at h; exact h) hgr (by omega) (by omega)) (λ w8 he hs=>aO (by omega) ?_);exact ⟨congrArg (Value.int .i64) (by rw [hn2]; rfl),hs.drop.aE⟩
termination_by N
decreasing_by all_goals omega
theorem C103 (lv:Value) (t:Bk) (N:Nat) (w:World) (hL:DL w lv t.flat) (gn:t.str) (hl:t.len≤1048576) (hN:t.len<N):CR 103 [lv] w (λ v w'=>v = .int .i64 (iY t)∧Ext w w'):=by
 have Cw:=t.cR;have hs:=St.start w;refine ZD _ _ _ ?_;unfold S103;obtain ⟨axF,Lt,V3⟩:=(hL).open;have hn44:=V3.1;refine aK j7 (Lt.ext hs.aE) (aH (aC (λ gw=>?_) (λ gw=>?_)))
 ·cases t with
  | nil=>exact ⟨rfl,hs.aE⟩
  | cons x a b r=>exact absurd Cw (by rw [show (Bk.cons x a b r).len=a.len+b.len+r.len+1 from rfl]; omega)
 ·obtain ⟨x,a,b,r,rfl⟩:=Bk.C2 (t:=t) (by omega);obtain ⟨af5,wB⟩:=gx axF (i:=((0:Int)).toNat) (by omega);obtain ⟨fm,vc⟩:=gx ((Bk.cons x a b r).flat) (i:=((0:Int)).toNat) (by omega);obtain ⟨xy,xz,rfl,adi,adj⟩:=V3.2 _ _ _ wB vc;refine aQ j7 Lt (by omega) wB (λ _ Lc=>?_);obtain rfl:fm=x:=(Option.some.inj vc).symm;have Lm:=gn;obtain ⟨FK,hg2,hg3,hg4,VK,hgb,hgr⟩:=Lm;have TT:a.len+b.len+r.len+1≤1048576:=hl;have hNn:a.len+b.len+r.len+1<N:=hN;have MP:=a.cR;have QB:=b.cR;have hlr:=r.cR;have QH:(Bk.cons fm a b r).flat.length=a.len+b.len+r.len+1:=Bk.cR _
  have hsa:=tj a;have hsb:=tj b;have hsr:=tj r;refine aD fX (Lc.ext hs.aE) (aJ hs qJ (λ Ls w1 hs=>have hs:=hs.enc (cs':=Flat.enc (⟨0,(ByteArray.mk #[]),(ByteArray.mk #[]),⟨none,0,0⟩,⟨none,0,0⟩,0,0,0,0⟩:bY)) rfl;aI (x:=(⟨(fm).kind,(fm).gP,(fm).name,xy,xz,(fm).n,(fm).body,(fm).fJ,(fm).at_⟩:bY)) hs fX rfl rfl (λ w2 hs=>aA m6 (aB (v:=.int .i64 ((fm).body)) bN hs.hb rfl (aO (by omega) (aA iQ (aB (v:=.int .i64 ((fm).fJ)) bN hs.hb rfl (aO (by omega) (kx j7 (Lt.ext hs.aE) (by omega) (by omega) (by omega) (λ apJ ajX=>?_))))))))))
  have ajY:=DL.cut ajX Lt V3;refine kx j7 (Lt.ext hs.aE) (by omega) (by omega) (by omega) (λ Qx Bz=>?_);have NV:=DL.cut Bz Lt V3;have hs:=hs.drew;refine aZ PD hs (C103 _ a (N - 1) _ (by have h:=ajY.ext hs.aE; rw [Bk.NU gn (by omega) (by omega)] at h; exact h) VK (by omega) (by omega)) (λ w3 he hs=>aZ PD hs (C103 _ b (N - 1) _ (by have h:=NV.ext hs.aE; rw [Bk.adg gn (by omega) (by omega)] at h; exact h) hgb (by omega) (by omega)) (λ w4 he hs=>xo ?_));refine ⟨λ jv w'=>∃ n1:Int,jv = .int .i64 n1∧n1=(if fm.kind=12 then max (iY a) (iY b)+1 else max (iY a) (iY b))∧0≤n1∧n1≤4000000∧St w bD [cE Ls (Flat.enc (⟨(fm).kind,(fm).gP,(fm).name,xy,xz,(fm).n,(fm).body,(fm).fJ,(fm).at_⟩:bY))] w',?_,?_⟩
  ·refine aA fC (aB (v:=.int .i64 ((fm).kind)) bN hs.hb rfl (aH (aC (λ jP=>?_) (λ jP=>?_))))
   ·refine aO (by omega) ?_;exact ⟨_,rfl,by grind,by omega,by omega,hs⟩
   ·exact ⟨_,rfl,by grind,by omega,by omega,hs⟩
  ·rintro _ w5 ⟨n1,rfl,Vp,axE,apC,hs⟩ fz;refine u3 j7 (Lt.ext hs.aE) (by omega) (by omega) (λ aga ajZ=>?_);have aj0:=DL.Qr ajZ Lt V3;refine aZ PD hs (C103 _ r (N - 1) _ (by have h:=aj0.ext hs.aE; rw [Bk.ada gn (by omega)] at h; exact h) hgr (by omega) (by omega)) (λ w6 he hs=>xo ?_);exact ⟨congrArg (Value.int .i64) (by rw [Vp]; rfl),hs.drop.aE⟩
termination_by N
decreasing_by all_goals omega
theorem V4 (t:Bk):∀ n:Int,kC t→1≤n→oP t n=false→n * sb t≤128 * (t.len:Int)∧0≤sb t:=by
 induction t with
 | nil=>intro n _ _ _; simp [sb,Bk.len]
 | cons x a b r vO xY GY=>
  intro n hq hn hw
  unfold oP at hw
  simp only [Bool.or_eq_false_iff,decide_eq_false_iff_not] at hw
  obtain ⟨⟨h64,ha,hb⟩,hr⟩:=hw
  have hm1:1≤sI x n:=by
   unfold sI
   split
   ·rename_i hk
    have:=hq.x hk
    have:=Int.mul_le_mul (a:=1) (b:=1) hn this.1 (by omega) (by omega)
    omega
   ·exact hn
  have h1:=vO _ hq.a hm1 ha
  have h2:=xY _ hq.b hm1 hb
  have h3:=GY _ hq.r hn hr
  have hnn:=adh _ hq
  refine ⟨?_,hnn⟩
  have hl:((Bk.cons x a b r).len:Int)=a.len+b.len+r.len+1:=rfl
  rw [hl,show sb (.cons x a b r)=(if x.kind=12 then x.n * sb a else if x.kind=11 then max (sb a) (sb b) else EK x.kind)+sb r from rfl,Int.mul_add]
  have key:n * (if x.kind=12 then x.n * sb a else if x.kind=11 then max (sb a) (sb b) else EK x.kind)≤128 * (a.len+b.len+1):=by
   by_cases hk:x.kind=12
   ·rw [if_pos hk,← Int.mul_assoc]
    have:sI x n=n * x.n:=by unfold sI; rw [if_pos hk]
    rw [this] at h1; omega
   ·have hwn:sI x n=n:=by unfold sI; rw [if_neg hk]
    rw [hwn] at h1 h2 h64
    rw [if_neg hk]
    split
    ·rcases Int.le_total (sb a) (sb b) with h | h
     ·rw [Int.max_eq_right h]; omega
     ·rw [Int.max_eq_left h]; omega
    ·have hc:=V0 x.kind
     have:=Int.mul_le_mul (a:=n) (b:=EK x.kind) (c:=64) (d:=2) (by omega) hc.2 hc.1 (by omega)
     omega
  omega
structure BA (p:cW):Prop where
 right:me p=true
 big:Aj p=false
 axH:∀ t∈iN p,vE t.body=false
 twice:rF (jJ p)=false
 aN:∀ t∈iN p,F7 p t.aN=false
 names:∀ t∈iN p,∀ x∈t.body,oA p t.aN x=false
 cC:∀ c∈p.cC,vD c.e (o7 p)=false
theorem Aw {p:cW} (h:gK p=0):BA p:=by
 unfold gK at h
 split at h
 ·omega
 ·rename_i h1
  split at h
  ·omega
  ·rename_i h2
   split at h
   ·omega
   ·rename_i h3
    split at h
    ·omega
    ·rename_i h4
     split at h
     ·omega
     ·rename_i h5
      split at h
      ·omega
      ·rename_i h6
       split at h
       ·omega
       ·rename_i h7
        simp only [Bool.not_eq_true,Bool.not_eq_false,List.any_eq_false] at h1 h2 h3 h4 h5 h6 h7
        exact ⟨h1,h2,λ t ht=>h3 t ht,h4,λ t ht=>h5 t ht,λ t ht x hx=>h6 t ht x hx,λ c hc=>h7 c hc⟩
theorem BA.tree {p:cW} (h:BA p) {t:dS} (ht:t∈iN p):∃ b:Bk,t.body=b.flat∧b.str∧b.ok 0=true∧b.len≤40∧kC b∧(∀ x∈b.flat,rD x=true)∧oP b 1=false∧oZ t.body=some b∧0≤sb b∧sb b≤5120:=by
 obtain ⟨h1,h2,b,h3,h4,h5,_⟩:=nJ ((wD h.right).mP ht).2.1
 have hl:b.len≤40:=by rw [← Bk.cR,← h3]; exact h1
 have hq:kC b:=λ x hx=>(NM (h2 x (by rw [h3]; exact hx))).2
 have hw:oP b 1=false:=by have:=h.axH t ht; rw [h3,yU h4] at this; exact this
 have hs:=V4 b 1 hq (by omega) hw
 exact ⟨b,h3,h4,h5,hl,hq,λ x hx=>h2 x (by rw [h3]; exact hx),hw,by rw [h3]; exact o0 h4,hs.2,by omega⟩
def Ga (p:cW) (rs:List ByteArray) (x:cG) (a b:Bk) (at_ lp out:Int):List aW:=
  if x.kind=11 then [⟨12,0,0,gg rs x.e,[],rI x a at_⟩]++eT p rs a (at_+1) lp out++(if 0<x.fJ then [⟨11,0,0,[],[],rI x a at_+bW b⟩] else [])++eT p rs b (rI x a at_) lp out
   else if x.kind=12 then [⟨13,lp,x.n,[],[],0⟩]++eT p rs a (at_+1) (lp+1) (at_+2+bW a)++[⟨14,lp,0,[],[],at_+1⟩]
   else if x.kind=13 then [⟨11,0,0,[],[],out⟩] else [lH p rs x]
theorem vk (p:cW) (rs:List ByteArray) (x:cG) (a b r:Bk) (at_ lp out:Int):eT p rs (.cons x a b r) at_ lp out=Ga p rs x a b at_ lp out++eT p rs r (at_+((Ga p rs x a b at_ lp out).length:Int)) lp out:=by
 have h1:=ia p rs (.cons x a b r) at_ lp out
 have e:eT p rs (.cons x a b r) at_ lp out=Ga p rs x a b at_ lp out++eT p rs r (at_+(bW (.cons x a b r) - bW r)) lp out:=rfl
 have h2:=ia p rs r (at_+(bW (.cons x a b r) - bW r)) lp out
 rw [e,List.length_append] at h1
 rw [e,show ((Ga p rs x a b at_ lp out).length:Int)=bW (.cons x a b r) - bW r from by omega]
theorem IQ (p:cW) (rs:List ByteArray) (x:cG) (a b r:Bk) (at_ lp out:Int):((Ga p rs x a b at_ lp out).length:Int)=bW (.cons x a b r) - bW r:=by
 have h1:=ia p rs (.cons x a b r) at_ lp out
 have h2:=ia p rs r (at_+(bW (.cons x a b r) - bW r)) lp out
 have e:eT p rs (.cons x a b r) at_ lp out=Ga p rs x a b at_ lp out++eT p rs r (at_+(bW (.cons x a b r) - bW r)) lp out:=rfl
 rw [e,List.length_append] at h1
 omega
def Lu:fq:=⟨0,0,[]⟩
def EL:ir:=⟨[],0,[],0,[],Lu,[]⟩
def Lv (p:cW):fq:=match p.recover[0]? with | some t=>mj p t | none=>Lu
theorem EM {p:cW} {t:dS} {b:Bk} (h:oZ t.body=some b):mj p t=⟨t.aN.length,iY b,eT p t.aN b 0 0 0⟩:=by unfold mj; rw [h]
theorem C159 (q:Vf) (qv:wo) (x:cG) (xv:bY) (w:World) (hv:cA.dr w qv q) (hx:cA.dr w xv x) (hz:PZ q.p) (BB:q.aN.length≤500) (hzx:SzS x):CR 159 [Flat.val qv,Flat.val xv] w (λ v w'=>∃ iv:bU,v=Flat.val iv∧lW (eB (λ w=>cA.dr w iv (lH q.p q.aN x))) w w'):=by
 obtain ⟨aqm,oB,rfl,V5,pY⟩:=hv;obtain ⟨eO,fb,eP,dX,dY,et,rfl,jQ,kV,jR,ij,ik,iZ⟩:=V5;obtain ⟨Ab,Ac,rfl,Ld,G0⟩:=hx;have QK:=mg hz.toPS;have KW:(g9 q.p).length≤500:=by unfold g9; rw [List.length_map]; exact hz.locks
 have hs:=St.start w;refine aai _ _ _ _ ?_;unfold S159;refine dE hs (λ b_v2 w1 hs=>dE hs (λ Ls w2 hs=>aJ hs mE (λ CB w3 hs=>have hs:=hs.enc (cs':=Flat.enc (⟨0,0,0,⟨none,0,0⟩,⟨none,0,0⟩,0⟩:bU)) rfl;aA zS (have hs:=hs.drew;aB pH hs.p2.hb rfl ?_))));have aj2:=DL.flat (pY);refine aA l4 (aB (v:=.string ((x).gP)) ke hs.p1.hb rfl (aA DO (uZ (⟨eO,fb,eP,dX,dY,et⟩:bL) gF hs.p2.hb rfl (aA jo (aB (v:=.string ((x).name)) ke hs.p1.hb rfl (aZ Bc hs (C98 _ (q).aN _ _ (aj2.ext hs.aE) (by omega)) (λ w4 he hs=>?_)))))))
 refine ⟨ID (⟨eO,fb,eP,dX,dY,et⟩:bL) gF hs.p2.hb rfl,?_⟩;refine ⟨aG ke (hs.p1.hb.cell rfl),?_⟩;refine xo (cZ Un hs (C46 (q).p _ _ ⟨eO,fb,eP,dX,dY,et,rfl,(jQ.ext hs.aE),(kV.ext hs.aE),(jR.ext hs.aE),(ij.ext hs.aE),(ik.ext hs.aE),(iZ.ext hs.aE)⟩ hz) (λ x20 w5 bV hs=>?_));refine ⟨aG ke (hs.p2.hb.cell rfl),?_⟩;refine aZ Bc hs (C98 _ (fe (q).p) _ _ (hs).fB (by omega)) (λ w6 he hs=>aA l5 (aB mW hs.p2.hb rfl ?_));have axI:=DL.flat (Ld)
 refine aA zS (aB pH hs.p3.hb rfl (ed Zy (C45 _ _ _ _ _ (axI.ext hs.aE) (aj2.ext hs.aE) hzx.2.2.1 (by omega) hzx.2.2.2.2.1) ?_));rintro _ w7 ⟨af4,rfl,bV⟩;have hs:=hs.made bV;refine bE rfl (bE rfl (aA oc (aB mW hs.p3.hb rfl ?_)));have axJ:=DL.flat (G0);refine aA zS (aB pH hs.p4.hb rfl (ed Zy (C45 _ _ _ _ _ (axJ.ext hs.aE) (aj2.ext hs.aE) hzx.2.2.2.1 (by omega) hzx.2.2.2.2.2) ?_));rintro _ w8 ⟨apS,rfl,bV⟩;have hs:=hs.made bV;refine bE rfl (bE rfl (aA fC (aB (v:=.int .i64 ((x).kind)) bN hs.p4.hb rfl ?_)));obtain ⟨vl,rfl⟩:=(hs.p1).fR;obtain ⟨o9,rfl⟩:=(hs).fR
 refine pop (DQ _ _ _ _ _ _ _ _) (aJ hs mE (λ aqn w9 hs=>have hs:=hs.enc (cs':=Flat.enc (⟨0,0,0,⟨none,0,0⟩,⟨none,0,0⟩,0⟩:bU)) rfl;aI (x:=(⟨(x).kind,(max 0 (dQ (q).aN (x).gP)),0,vl,o9,0⟩:bU)) hs lL rfl rfl (λ pP hs=>?_)));refine ⟨λ w'=>∃ kk bb:Int,kk=(if x.kind=14 then 15 else x.kind)∧bb=(if x.kind=2∨x.kind=3∨x.kind=4 then dQ (fe q.p) x.name else if x.kind=5∨x.kind=6 then mf q.p (dQ (fe q.p) x.name) else if x.kind=9∨x.kind=10 then dQ (g9 q.p) x.name else 0)∧St w bD [cE aqn (Flat.enc (⟨kk,max 0 (dQ q.aN x.gP),bb,vl,o9,0⟩:bU)),bK (Flat.val vl) (gg q.aN x.e),bK (Flat.val o9) (gg q.aN x.f),cE CB (Flat.enc (⟨0,0,0,⟨none,0,0⟩,⟨none,0,0⟩,0⟩:bU))] w',?_,?_⟩
 ·refine aA fC (aB (v:=.int .i64 ((x).kind)) bN hs.p5.hb rfl ?_);refine ⟨λ jv w'=>jv = .bool (decide (x.kind=2∨x.kind=3∨x.kind=4))∧pP=w',?_,?_⟩
  ·refine aH (aC (λ vF=>?_) (λ vF=>?_))
   ·exact ⟨vX (by omega),rfl⟩
   ·refine aH (aC (λ pX=>?_) (λ pX=>?_))
    ·exact ⟨vX (by omega),rfl⟩
    ·refine aH ?_;exact ⟨vX (by omega),rfl⟩
  ·rintro _ sB ⟨rfl,hw⟩ fz;subst hw;refine aC (λ Ad=>?_) (λ Ad=>?_)
   ·refine aA eZ (aV hs bN (eL rfl) (rfl) (λ u7 hs=>?_));have hs:=hs.enc (cs':=Flat.enc (⟨(x).kind,(max 0 (dQ (q).aN (x).gP)),(dQ (fe (q).p) (x).name),vl,o9,0⟩:bU)) rfl;have hs:=(((hs.p3.drop.p4.drop.p4.drop.p3).p2).p3).p3;exact ⟨_,_,by grind,by grind,hs⟩
   ·refine ⟨λ jv w'=>jv = .bool (decide (x.kind=5∨x.kind=6))∧pP=w',?_,?_⟩
    ·refine aH (aC (λ EA=>?_) (λ EA=>?_))
     ·exact ⟨vX (by omega),rfl⟩
     ·refine aH ?_;exact ⟨vX (by omega),rfl⟩
    ·rintro _ u9 ⟨rfl,hw⟩ jB;subst hw;refine aC (λ wE=>?_) (λ wE=>?_)
     ·refine aA DO (uZ (⟨eO,fb,eP,dX,dY,et⟩:bL) gF hs.p6.hb rfl (aZ ann hs (C43 (q).p _ _ _ ⟨eO,fb,eP,dX,dY,et,rfl,(jQ.ext hs.aE),(kV.ext hs.aE),(jR.ext hs.aE),(ij.ext hs.aE),(ik.ext hs.aE),(iZ.ext hs.aE)⟩ hz) (λ r9 he hs=>aA eZ (aV hs bN (eL rfl) (rfl) (λ vT hs=>?_)))));have hs:=hs.enc (cs':=Flat.enc (⟨(x).kind,(max 0 (dQ (q).aN (x).gP)),(mf (q).p (dQ (fe (q).p) (x).name)),vl,o9,0⟩:bU)) rfl;have hs:=(((hs.p3.drop.p4.drop.p4.drop.p3).p2).p3).p3
      exact ⟨_,_,by grind,by grind,hs⟩
     ·refine ⟨λ jv w'=>jv = .bool (decide (x.kind=9∨x.kind=10))∧pP=w',?_,?_⟩
      ·refine aH (aC (λ G7=>?_) (λ G7=>?_))
       ·exact ⟨vX (by omega),rfl⟩
       ·refine aH ?_;exact ⟨vX (by omega),rfl⟩
      ·rintro _ yO ⟨rfl,hw⟩ oN;subst hw;refine aC (λ sH=>?_) (λ sH=>?_)
       ·refine aA DO (have hs:=hs.drew;uZ (⟨eO,fb,eP,dX,dY,et⟩:bL) gF hs.p6.hb rfl (aA jo (aB (v:=.string ((x).name)) ke hs.p5.hb rfl (cZ aiG hs (C99 (q).p _ _ ⟨eO,fb,eP,dX,dY,et,rfl,(jQ.ext hs.aE),(kV.ext hs.aE),(jR.ext hs.aE),(ij.ext hs.aE),(ik.ext hs.aE),(iZ.ext hs.aE)⟩ hz) (λ x67 B6 bV hs=>?_)))));refine ⟨aG ke (hs.p6.hb.cell rfl),?_⟩;refine aZ Bc hs (C98 _ (g9 (q).p) _ _ (hs).fB (by omega)) (λ GQ he hs=>aA eZ (aV hs.p1 bN (eL rfl) (rfl) (λ IF hs=>?_)))
        have hs:=hs.enc (cs':=Flat.enc (⟨(x).kind,(max 0 (dQ (q).aN (x).gP)),(dQ (g9 (q).p) (x).name),vl,o9,0⟩:bU)) rfl;have hs:=((((hs.p1.drop.p3.drop.p4.drop.p4.drop).p3).p2).p3).p3;exact ⟨_,_,by grind,by grind,hs⟩
       ·refine aH (aC (λ La=>?_) (λ La=>?_))
        ·refine aA jm (aV hs bN (eL rfl) (rfl) (λ JH hs=>?_));have hs:=hs.enc (cs':=Flat.enc (⟨15,(max 0 (dQ (q).aN (x).gP)),0,vl,o9,0⟩:bU)) rfl;have hs:=(((hs.p3.drop.p4.drop.p4.drop.p3).p2).p3).p3;exact ⟨_,_,by grind,by grind,hs⟩
        ·have hs:=(((hs.p3.drop.p4.drop.p4.drop.p3).p2).p3).p3;exact ⟨_,_,by grind,by grind,hs⟩
 ·rintro Lr ⟨kk,bb,nn,hbb,hs⟩ F6;refine aD lL hs.At (aI (x:=(⟨kk,max 0 (dQ q.aN x.gP),bb,vl,o9,0⟩:bU)) hs.p3 lL rfl rfl (λ NS hs=>aD lL hs.At ?_));have hs:=hs.p2.freeze.p3.freeze.p1.fP.dO (Ψ:=(λ w=>cA.dr w (⟨kk,max 0 (dQ q.aN x.gP),bb,vl,o9,0⟩:bU) (⟨kk,max 0 (dQ q.aN x.gP),bb,(gg q.aN x.e),(gg q.aN x.f),0⟩:aW))) (λ w h=>⟨_,_,rfl,DL.fu h.1,DL.fu h.2⟩);have hs:=((hs.p1.drop).p1).drop;have h1:lH q.p q.aN x=(⟨kk,max 0 (dQ q.aN x.gP),bb,gg q.aN x.e,gg q.aN x.f,0⟩:aW):=by unfold lH; rw [← nn,← hbb]
  exact ⟨_,rfl,by rw [h1]; exact hs.fresh⟩
set_option maxHeartbeats 4000000 in
theorem C104 (q:Vf) (qv:wo) (lv:Value) (t:Bk) (at_ lp out:Int) (N:Nat) (w:World) (hv:cA.dr w qv q) (hL:DL w lv t.flat) (hz:PZ q.p) (BB:q.aN.length≤500) (gn:t.str) (hq:∀ x∈t.flat,SzS x) (hb:(0≤at_∧at_+bW t≤16777216)∧(0≤lp∧lp+t.len≤16777216)) (hl:t.len≤1048576) (hN:t.len<N) (hN2:0<N):CR 104 [Flat.val qv,lv,.int .i64 at_,.int .i64 lp,.int .i64 out] w (λ v w'=>lW (fo v (eT q.p q.aN t at_ lp out)) w w'):=by
 obtain ⟨aqm,oB,rfl,V5,pY⟩:=hv;obtain ⟨eO,fb,eP,dX,dY,et,rfl,jQ,kV,jR,ij,ik,iZ⟩:=V5;have Cw:=t.cR;have hs:=St.start w;refine ZE _ _ _ _ _ _ _ ?_;unfold S104;refine dE hs (λ adl w1 hs=>?_);obtain ⟨axK,Lw,V6⟩:=(hL).open;have hn49:=V6.1;refine aK j7 (Lw.ext hs.aE) (aH (aC (λ iT=>?_) (λ iT=>?_)))
 ·cases t with
  | nil=>exact (hs.xX (α:=aW)).fresh
  | cons x a b r=>exact absurd Cw (by rw [show (Bk.cons x a b r).len=a.len+b.len+r.len+1 from rfl]; omega)
 ·obtain ⟨x,a,b,r,rfl⟩:=Bk.C2 (t:=t) (by omega);obtain ⟨G8,qj⟩:=gx axK (i:=((0:Int)).toNat) (by omega);obtain ⟨ep,wK⟩:=gx ((Bk.cons x a b r).flat) (i:=((0:Int)).toNat) (by omega);obtain ⟨xA,xB,rfl,IS,QP⟩:=V6.2 _ _ _ qj wK;refine aQ j7 Lw (by omega) qj (λ _ uw=>?_);obtain rfl:ep=x:=(Option.some.inj wK).symm;have Lm:=gn;obtain ⟨FK,hg2,hg3,hg4,VK,hgb,hgr⟩:=Lm;have TT:a.len+b.len+r.len+1≤1048576:=hl;have hNn:a.len+b.len+r.len+1<N:=hN;have MP:=a.cR;have QB:=b.cR;have hlr:=r.cR;have QH:(Bk.cons ep a b r).flat.length=a.len+b.len+r.len+1:=Bk.cR _
  have hsa:=iX a;have hsb:=iX b;have hsr:=iX r;have hSe:bW (.cons ep a b r)=(if ep.kind=12 then 2+bW a else if ep.kind=11 then (if 0<ep.fJ then 1+bW a+bW b+1 else 1+bW a+bW b) else 1)+bW r:=rfl;have hqx:=hq ep (by simp [Bk.flat]);refine aD fX (uw.ext hs.aE) (aJ hs qJ (λ V7 w2 hs=>have hs:=hs.enc (cs':=Flat.enc (⟨0,(ByteArray.mk #[]),(ByteArray.mk #[]),⟨none,0,0⟩,⟨none,0,0⟩,0,0,0,0⟩:bY)) rfl;aI (x:=(⟨(ep).kind,(ep).gP,(ep).name,xA,xB,(ep).n,(ep).body,(ep).fJ,(ep).at_⟩:bY)) hs fX rfl rfl (λ w3 hs=>aA m6 (aB (v:=.int .i64 ((ep).body)) bN hs.hb rfl (aO (by omega) (aA iQ (aB (v:=.int .i64 ((ep).fJ)) bN hs.hb rfl (aO (by omega) (kx j7 (Lw.ext hs.aE) (by omega) (by omega) (by omega) (λ af8 aj3=>?_))))))))))
  have IT:=DL.cut aj3 Lw V6;refine kx j7 (Lw.ext hs.aE) (by omega) (by omega) (by omega) (λ aqo aj4=>?_);have V8:=DL.cut aj4 Lw V6;have hs:=hs.drew;refine wj (α:=aW) hs kS (λ V9 w4 hs=>?_);refine ⟨λ J8 w'=>St w bD [fo J8 (Ga q.p q.aN ep a b at_ lp out),cE adl (Flat.enc (⟨(⟨eO,fb,eP,dX,dY,et⟩:bL),oB⟩:wo))] w',?_,?_⟩
  ·refine aA fC (aB (v:=.int .i64 ((ep).kind)) bN hs.p1.hb rfl (aH (aC (λ pR=>?_) (λ pR=>?_))))
   ·have axL:bW (.cons ep a b r)=(if 0<ep.fJ then 1+bW a+bW b+1 else 1+bW a+bW b)+bW r:=by rw [hSe,if_neg (by omega),if_pos (by omega)]
    have hma:=ia q.p q.aN a (at_+1) lp out;have axM:1+bW a+bW b+bW r≤bW (.cons ep a b r):=by rw [axL]; split <;> omega
    refine aA l5 (aB mW hs.p1.hb rfl ?_);have axN:=DL.flat (IS);refine aA zS (aB pH hs.p2.hb rfl ?_);have axO:=DL.flat (pY);refine ed Zy (C45 _ _ _ _ _ (axN.ext hs.aE) (axO.ext hs.aE) hqx.2.2.1 (by omega) hqx.2.2.2.2.1) ?_;rintro _ w5 ⟨aqp,rfl,bV⟩;have hs:=hs.made bV;refine bE rfl (bE rfl (aO (by omega) (aZ Dy hs (C158 _ a (a.len+1) _ (by have h:=IT.ext hs.aE; rw [Bk.NU gn (by omega) (by omega)] at h; exact h) VK (by omega) (by omega)) (λ w6 he hs=>aO (by omega) ?_))));refine ⟨λ jv w'=>∃ to:Int,jv = .int .i64 to∧to=rI ep a at_∧0≤to∧to≤at_+2+bW a∧St w bD [bK aqp (gg q.aN ep.e),fo V9 ([]:List aW),cE V7 (Flat.enc (⟨(ep).kind,(ep).gP,(ep).name,xA,xB,(ep).n,(ep).body,(ep).fJ,(ep).at_⟩:bY)),cE adl (Flat.enc (⟨(⟨eO,fb,eP,dX,dY,et⟩:bL),oB⟩:wo))] w',?_,?_⟩
    ·refine aA iQ (aB (v:=.int .i64 ((ep).fJ)) bN hs.p2.hb rfl (dD (aC (λ oz=>?_) (λ oz=>?_))))
     ·refine aO (by omega) ?_;have hs:=hs.p3.p3.p3.p3;exact ⟨_,rfl,by unfold rI; grind,by omega,by omega,hs⟩
     ·have hs:=hs.p3.p3.p3.p3;exact ⟨_,rfl,by unfold rI; grind,by omega,by omega,hs⟩
    ·rintro _ w7 ⟨to,rfl,hto,hto0,hto1,hs⟩ fz;obtain ⟨Wa,rfl⟩:=(hs).fR;refine pop (Iv _ _ _ _ _) (have hs:=hs.freeze.dO (Ψ:=(λ w=>cA.dr w (⟨12,0,0,Wa,⟨none,0,0⟩,to⟩:bU) (⟨12,0,0,(gg ((q).aN) ((ep).e)),[],to⟩:aW))) (λ w h=>⟨_,_,rfl,DL.fu h,DL.nil _⟩);eM (s:=(⟨12,0,0,Wa,⟨none,0,0⟩,to⟩:bU)) (x:=(⟨12,0,0,(gg ((q).aN) ((ep).e)),[],to⟩:aW)) hs kS (by decide) (λ agb w8 hs=>have hs:=hs.p1;ee hs kS (by simp only [List.length_append,List.length_cons,List.length_nil]; omega) (by decide) (λ aqq w9 hs=>aD B3 hs.p2.At (aO (by omega) (cZ Ka hs (C104 q _ _ a (at_+1) (lp) (out) (N - 1) _ ⟨(⟨eO,fb,eP,dX,dY,et⟩:bL),oB,rfl,⟨eO,fb,eP,dX,dY,et,rfl,(jQ.ext hs.aE),(kV.ext hs.aE),(jR.ext hs.aE),(ij.ext hs.aE),(ik.ext hs.aE),(iZ.ext hs.aE)⟩,(pY.ext hs.aE)⟩ (by have h:=IT.ext hs.aE; rw [Bk.NU gn (by omega) (by omega)] at h; exact h) hz BB VK (λ y hy=>hq y (by simp [Bk.flat,hy])) (by omega) (by omega) (by omega) (by omega)) (λ x83 pP bV hs=>have hs:=hs.p1;ee hs kS (by simp only [List.length_append,List.length_cons,List.length_nil]; omega) (by decide) (λ agc sB hs=>?_)))))))
     refine ⟨λ r16 w'=>St w bD [fo r16 (((([]:List aW)++[(⟨12,0,0,(gg (q.aN) ((ep).e)),[],to⟩:aW)])++(eT q.p q.aN a (at_+1) (lp) (out)))++(if 0<ep.fJ then [(⟨11,0,0,[],[],(to+(bW b))⟩:aW)] else [])),cE V7 (Flat.enc (⟨(ep).kind,(ep).gP,(ep).name,xA,xB,(ep).n,(ep).body,(ep).fJ,(ep).at_⟩:bY)),cE adl (Flat.enc (⟨(⟨eO,fb,eP,dX,dY,et⟩:bL),oB⟩:wo))] w',?_,?_⟩
     ·refine aA iQ (aB (v:=.int .i64 ((ep).fJ)) bN hs.p1.hb rfl (dD (aC (λ Ae=>?_) (λ Ae=>?_))))
      ·refine aZ Dy hs (C158 _ b (b.len+1) _ (by have h:=V8.ext hs.aE; rw [Bk.adg gn (by omega) (by omega)] at h; exact h) hgb (by omega) (by omega)) (λ u7 he hs=>aO (by omega) (pop (DU _ _) (have hs:=hs.gH (Φ:=(λ w=>cA.dr w (⟨11,0,0,⟨none,0,0⟩,⟨none,0,0⟩,(to+(bW b))⟩:bU) (⟨11,0,0,[],[],(to+(bW b))⟩:aW))) (λ w=>⟨_,_,rfl,DL.nil _,DL.nil _⟩);eM (s:=(⟨11,0,0,⟨none,0,0⟩,⟨none,0,0⟩,(to+(bW b))⟩:bU)) (x:=(⟨11,0,0,[],[],(to+(bW b))⟩:aW)) hs kS (by decide) (λ s_x94 u9 hs=>have hs:=hs.p1;ee hs kS (by simp only [List.length_append,List.length_cons,List.length_nil]; omega) (by decide) (λ s_x95 r9 hs=>?_)))))
       have hs:=hs.p2.p2.p2;have hh:(((([]:List aW)++[(⟨12,0,0,(gg ((q).aN) ((ep).e)),[],to⟩:aW)])++(eT q.p q.aN a (at_+1) (lp) (out)))++[(⟨11,0,0,[],[],(to+(bW b))⟩:aW)])=(((([]:List aW)++[(⟨12,0,0,(gg (q.aN) ((ep).e)),[],to⟩:aW)])++(eT q.p q.aN a (at_+1) (lp) (out)))++(if 0<ep.fJ then [(⟨11,0,0,[],[],(to+(bW b))⟩:aW)] else [])):=by rw [if_pos (by omega)]
       rw [hh] at hs;exact hs
      ·have hs:=hs.p2.p2.p2;have hh:((([]:List aW)++[(⟨12,0,0,(gg ((q).aN) ((ep).e)),[],to⟩:aW)])++(eT q.p q.aN a (at_+1) (lp) (out)))=(((([]:List aW)++[(⟨12,0,0,(gg (q.aN) ((ep).e)),[],to⟩:aW)])++(eT q.p q.aN a (at_+1) (lp) (out)))++(if 0<ep.fJ then [(⟨11,0,0,[],[],(to+(bW b))⟩:aW)] else [])):=by rw [if_neg (by omega)]; simp
       rw [hh] at hs;exact hs
     ·rintro r16 vT hs jB;have tL:=ia q.p q.aN b to lp out;refine aD B3 hs.p2.At (cZ Ka hs (C104 q _ _ b (to) (lp) (out) (N - 1) _ ⟨(⟨eO,fb,eP,dX,dY,et⟩:bL),oB,rfl,⟨eO,fb,eP,dX,dY,et,rfl,(jQ.ext hs.aE),(kV.ext hs.aE),(jR.ext hs.aE),(ij.ext hs.aE),(ik.ext hs.aE),(iZ.ext hs.aE)⟩,(pY.ext hs.aE)⟩ (by have h:=V8.ext hs.aE; rw [Bk.adg gn (by omega) (by omega)] at h; exact h) hz BB hgb (λ y hy=>hq y (by simp [Bk.flat,hy])) (by rw [hto]; unfold rI; split <;> omega) (by omega) (by omega) (by omega)) (λ x102 yO bV hs=>have hs:=hs.p1;ee hs kS (by simp only [List.length_append,List.length_cons,List.length_nil]; split <;> simp only [List.length_cons,List.length_nil] <;> omega) (by decide) (λ axQ B6 hs=>?_)))
      have hs:=(hs.p1.drop.p1).p1;have hh:((((([]:List aW)++[(⟨12,0,0,(gg (q.aN) ((ep).e)),[],to⟩:aW)])++(eT q.p q.aN a (at_+1) (lp) (out)))++(if 0<ep.fJ then [(⟨11,0,0,[],[],(to+(bW b))⟩:aW)] else []))++(eT q.p q.aN b (to) (lp) (out)))=Ga q.p q.aN ep a b at_ lp out:=by unfold Ga; simp [*]
      rw [hh] at hs;exact hs
   ·refine aH (aC (λ BC=>?_) (λ BC=>?_))
    ·have axM:bW (.cons ep a b r)=2+bW a+bW r:=by rw [hSe,if_pos (by omega)]
     have hma:=ia q.p q.aN a (at_+1) (lp+1) (at_+2+bW a);refine aO (by omega) (aZ Dy hs (C158 _ a (a.len+1) _ (by have h:=IT.ext hs.aE; rw [Bk.NU gn (by omega) (by omega)] at h; exact h) VK (by omega) (by omega)) (λ GQ he hs=>aO (by omega) (aA tZ (aB (v:=.int .i64 ((ep).n)) bN hs.p1.hb rfl (pop (It _ _ _) (have hs:=hs.gH (Φ:=(λ w=>cA.dr w (⟨13,lp,(ep).n,⟨none,0,0⟩,⟨none,0,0⟩,0⟩:bU) (⟨13,lp,(ep).n,[],[],0⟩:aW))) (λ w=>⟨_,_,rfl,DL.nil _,DL.nil _⟩);eM (s:=(⟨13,lp,(ep).n,⟨none,0,0⟩,⟨none,0,0⟩,0⟩:bU)) (x:=(⟨13,lp,(ep).n,[],[],0⟩:aW)) hs kS (by decide) (λ aj5 IF hs=>have hs:=hs.p1;ee hs kS (by simp only [List.length_append,List.length_cons,List.length_nil]; omega) (by decide) (λ axR JH hs=>aD B3 hs.p2.At (aO (by omega) (aO (by omega) (cZ Ka hs (C104 q _ _ a (at_+1) (lp+1) (at_+2+bW a) (N - 1) _ ⟨(⟨eO,fb,eP,dX,dY,et⟩:bL),oB,rfl,⟨eO,fb,eP,dX,dY,et,rfl,(jQ.ext hs.aE),(kV.ext hs.aE),(jR.ext hs.aE),(ij.ext hs.aE),(ik.ext hs.aE),(iZ.ext hs.aE)⟩,(pY.ext hs.aE)⟩ (by have h:=IT.ext hs.aE; rw [Bk.NU gn (by omega) (by omega)] at h; exact h) hz BB VK (λ y hy=>hq y (by simp [Bk.flat,hy])) (by omega) (by omega) (by omega) (by omega)) (λ x126 Lr bV hs=>have hs:=hs.p1;ee hs kS (by simp only [List.length_append,List.length_cons,List.length_nil]; omega) (by decide) (λ axS NS hs=>?_)))))))))))))
     refine aO (by omega) (pop (Iu _ _ _) (have hs:=hs.gH (Φ:=(λ w=>cA.dr w (⟨14,lp,0,⟨none,0,0⟩,⟨none,0,0⟩,(at_+1)⟩:bU) (⟨14,lp,0,[],[],(at_+1)⟩:aW))) (λ w=>⟨_,_,rfl,DL.nil _,DL.nil _⟩);eM (s:=(⟨14,lp,0,⟨none,0,0⟩,⟨none,0,0⟩,(at_+1)⟩:bU)) (x:=(⟨14,lp,0,[],[],(at_+1)⟩:aW)) hs kS (by decide) (λ axT Sy hs=>have hs:=hs.p1;ee hs kS (by simp only [List.length_append,List.length_cons,List.length_nil]; omega) (by decide) (λ axU TU hs=>?_))));have hs:=(hs.p1.drop.p1).p1;have hh:(((([]:List aW)++[(⟨13,lp,(ep).n,[],[],0⟩:aW)])++(eT q.p q.aN a (at_+1) (lp+1) (at_+2+bW a)))++[(⟨14,lp,0,[],[],(at_+1)⟩:aW)])=Ga q.p q.aN ep a b at_ lp out:=by unfold Ga; simp [*]
     rw [hh] at hs;exact hs
    ·refine aH (aC (λ NQ=>?_) (λ NQ=>?_))
     ·refine pop (DU _ _) (have hs:=hs.gH (Φ:=(λ w=>cA.dr w (⟨11,0,0,⟨none,0,0⟩,⟨none,0,0⟩,out⟩:bU) (⟨11,0,0,[],[],out⟩:aW))) (λ w=>⟨_,_,rfl,DL.nil _,DL.nil _⟩);eM (s:=(⟨11,0,0,⟨none,0,0⟩,⟨none,0,0⟩,out⟩:bU)) (x:=(⟨11,0,0,[],[],out⟩:aW)) hs kS (by decide) (λ axV QQ hs=>have hs:=hs.p1;ee hs kS (by simp only [List.length_append,List.length_cons,List.length_nil]; omega) (by decide) (λ axW Y6 hs=>?_)));have hs:=(hs.p1.drop.p1).p1;have hh:(([]:List aW)++[(⟨11,0,0,[],[],out⟩:aW)])=Ga q.p q.aN ep a b at_ lp out:=by unfold Ga; simp [*]
      rw [hh] at hs;exact hs
     ·refine aD B3 hs.p2.At (aD fX hs.p1.At (ed anP (C159 q _ ep _ _ ⟨(⟨eO,fb,eP,dX,dY,et⟩:bL),oB,rfl,⟨eO,fb,eP,dX,dY,et,rfl,(jQ.ext hs.aE),(kV.ext hs.aE),(jR.ext hs.aE),(ij.ext hs.aE),(ik.ext hs.aE),(iZ.ext hs.aE)⟩,(pY.ext hs.aE)⟩ ⟨xA,xB,rfl,(IS.ext hs.aE),(QP.ext hs.aE)⟩ hz BB hqx) ?_));rintro _ Y7 ⟨aj6,rfl,bV⟩;have hs:=hs.made bV;refine eM (s:=aj6) (x:=(lH q.p q.aN ep)) hs kS (by decide) (λ aqr w28 hs=>have hs:=hs.p1;ee hs kS (by simp only [List.length_append,List.length_cons,List.length_nil]; omega) (by decide) (λ aqs w29 hs=>?_))
      have hs:=(hs.p1.drop.p1).p1;have hh:(([]:List aW)++[(lH q.p q.aN ep)])=Ga q.p q.aN ep a b at_ lp out:=by unfold Ga; simp [*]
      rw [hh] at hs;exact hs
  ·rintro J8 w30 hs oN;have hs:=hs.drew;refine aD B3 hs.p1.At (u3 j7 (Lw.ext hs.aE) (by omega) (by omega) (λ axX adp=>?_));have adq:=DL.Qr adp Lw V6;have Lx:=IQ q.p q.aN ep a b r at_ lp out;have hmr:=ia q.p q.aN r (at_+((Ga q.p q.aN ep a b at_ lp out).length:Int)) lp out;obtain ⟨atF,adr,ads,_⟩:=(hs).dl;refine aK kS adr ?_;rw [ads];refine aO (by omega) (cZ Ka hs (C104 q _ _ r (at_+((Ga q.p q.aN ep a b at_ lp out).length:Int)) (lp) (out) (N - 1) _ ⟨(⟨eO,fb,eP,dX,dY,et⟩:bL),oB,rfl,⟨eO,fb,eP,dX,dY,et,rfl,(jQ.ext hs.aE),(kV.ext hs.aE),(jR.ext hs.aE),(ij.ext hs.aE),(ik.ext hs.aE),(iZ.ext hs.aE)⟩,(pY.ext hs.aE)⟩ (by have h:=adq.ext hs.aE; rw [Bk.ada gn (by omega)] at h; exact h) hz BB hgr (λ y hy=>hq y (by simp [Bk.flat,hy])) (by omega) (by omega) (by omega) (by omega)) (λ x153 w31 bV hs=>have hs:=hs.p1;ee hs kS (by omega) (by decide) (λ axY w32 hs=>?_)))
   have hs:=(hs.p1).drop;rw [vk];exact hs.fresh
termination_by N
decreasing_by all_goals omega
theorem NW (f:Nat→Int) (k:Nat):(List.range k).map f++[f k]=(List.range (k+1)).map f:=by rw [List.range_succ,List.map_append]; rfl
theorem NX (p:cW):(pz p).length=(gJ p).length:=by unfold pz; rw [List.length_map]
theorem C44 (p:cW) (pv:bL) (t:dS) (tv:ei) (b:Bk) (w:World) (hp:cA.dr w pv p) (ht:cA.dr w tv t) (hz:PZ p) (Lh:SzT t∧t.aN.length≤500) (hbf:t.body=b.flat) (gn:b.str) (hl:b.len≤40) (NY:oZ t.body=some b):CR 44 [Flat.val pv,Flat.val tv] w (λ v w'=>∃ cv:cL,v=Flat.val cv∧lW (eB (λ w=>cA.dr w cv (mj p t))) w w'):=by
 obtain ⟨bF,bQ,bG,aT,aU,aX,rfl,cH,dA,cI,bR,bO,cB⟩:=hp;obtain ⟨uu,Ap,rfl,Aq,EE⟩:=ht;have hs:=St.start w;refine ahU _ _ _ _ ?_;unfold S44;refine dE hs (λ VI w1 hs=>dE hs (λ adv w2 hs=>aJ hs Io (λ CB w3 hs=>have hs:=hs.enc (cs':=Flat.enc (⟨0,0,⟨none,0,0⟩⟩:cL)) rfl;aD gF hs.p2.At (aA jz (aB pH hs.p1.hb rfl ?_)))));have aqt:=DL.flat (Aq);refine pop (Nr _ _ _ _ _ _ _ _ _ _ _ _ _ _ _ _ _ _ _ _ _) (aJ hs ab3 (λ adl w4 hs=>have hs:=hs.enc (cs':=Flat.enc (⟨(⟨⟨none,0,0⟩,⟨none,0,0⟩,⟨none,0,0⟩,⟨none,0,0⟩,⟨none,0,0⟩,⟨none,0,0⟩⟩:bL),⟨none,0,0⟩⟩:wo)) rfl;aI (x:=(⟨(⟨bF,bQ,bG,aT,aU,aX⟩:bL),uu⟩:wo)) hs B3 rfl rfl (λ w5 hs=>?_)))
 have lF:=iX b;refine aA jz (have hs:=hs.drew;aB pH hs.p2.hb rfl (aK mX (aqt.ext hs.aE) (aA qI (aB te hs.p2.hb rfl (aD B3 hs.At (aA qI (aB te hs.p2.hb rfl (aZ PD hs (C103 _ b (b.len+1) _ (by rw [← hbf]; exact (EE.ext hs.aE)) gn (by omega) (by omega)) (λ w6 he hs=>?_)))))))));refine ⟨aG pH (hs.p2.hb.cell rfl),?_⟩;refine ⟨eU B3 hs.At,?_⟩;refine ⟨aG te (hs.p2.hb.cell rfl),?_⟩;refine cZ Ka hs (C104 (⟨p,t.aN⟩:Vf) _ _ b 0 0 0 (b.len+1) _ (show cA.dr _ (⟨(⟨bF,bQ,bG,aT,aU,aX⟩:bL),uu⟩:wo) (⟨p,(t).aN⟩:Vf) from ⟨_,_,rfl,⟨bF,bQ,bG,aT,aU,aX,rfl,(cH.ext hs.aE),(dA.ext hs.aE),(cI.ext hs.aE),(bR.ext hs.aE),(bO.ext hs.aE),(cB.ext hs.aE)⟩,DL.fu (aqt.ext hs.aE)⟩) (by rw [← hbf]; exact (EE.ext hs.aE)) hz (by have:=Lh.2; show t.aN.length≤500; omega) gn (λ y hy=>Lh.1.2.2 y (by rw [hbf]; exact hy)) (by omega) (by omega) (by omega) (by omega)) (λ x19 w7 bV hs=>?_)
 refine ⟨aG pH (hs.p3.hb.cell rfl),?_⟩;obtain ⟨IU,rfl⟩:=(hs).lO;refine pop (KB _ _ _ _ _) (aI (x:=(⟨(((t).aN).length:Int),(iY b),IU⟩:cL)) hs.p2 qg rfl rfl (λ w8 hs=>aD qg hs.At ?_));have hs:=hs.p1.jO.dO (Ψ:=(λ w=>cA.dr w (⟨(((t).aN).length:Int),(iY b),IU⟩:cL) (⟨(((t).aN).length:Int),(iY b),(eT p t.aN b 0 0 0)⟩:fq))) (λ w h=>⟨_,rfl,h⟩);have hs:=((((hs.p1.drop.p1.drop).p1).drop).p1).drop;rw [EM NY];exact ⟨_,rfl,hs.fresh⟩
set_option maxHeartbeats 4000000 in
theorem C12 (p:cW) (pv:bL) (w:World) (hp:cA.dr w pv p) (hz:PZ p):CR 12 [Flat.val pv] w (λ v w'=>∃ uv:dL,v = .tuple #[Flat.val uv,.int .i64 (gK p)]∧lW (eB (λ w=>cA.dr w uv (if gK p=0 then eu p else EL))) w w'):=by
 obtain ⟨bF,bQ,bG,aT,aU,aX,rfl,cH,dA,cI,bR,bO,cB⟩:=hp;have hs:=St.start w;refine aht _ _ _ ?_;unfold S12;refine dE hs (λ kK w1 hs=>aJ hs uW (λ ma w2 hs=>have hs:=hs.enc (cs':=Flat.enc (⟨⟨none,0,0⟩,0,⟨none,0,0⟩,0,⟨none,0,0⟩,(⟨0,0,⟨none,0,0⟩⟩:cL),⟨none,0,0⟩⟩:dL)) rfl;aD gF hs.p1.At (ed au6 (C40 p _ _ ⟨bF,bQ,bG,aT,aU,aX,rfl,(cH.ext hs.aE),(dA.ext hs.aE),(cI.ext hs.aE),(bR.ext hs.aE),(bO.ext hs.aE),(cB.ext hs.aE)⟩ hz) ?_)))
 rintro _ w3 ⟨a_x14,rfl,he⟩;have hs:=hs.ext he;refine bE rfl (bE rfl (cO (aC (λ gd=>?_) (λ gd=>?_))))
 ·refine pop (v:=Flat.val (⟨⟨none,0,0⟩,0,⟨none,0,0⟩,0,⟨none,0,0⟩,(⟨0,0,⟨none,0,0⟩⟩:cL),⟨none,0,0⟩⟩:dL)) (by kernel_rfl) (aI (x:=(⟨⟨none,0,0⟩,0,⟨none,0,0⟩,0,⟨none,0,0⟩,(⟨0,0,⟨none,0,0⟩⟩:cL),⟨none,0,0⟩⟩:dL)) hs r8 rfl rfl (λ w4 hs=>aD r8 hs.At ?_));have hs:=hs.gH (Φ:=(λ w=>cA.dr w (⟨⟨none,0,0⟩,0,⟨none,0,0⟩,0,⟨none,0,0⟩,(⟨0,0,⟨none,0,0⟩⟩:cL),⟨none,0,0⟩⟩:dL) (⟨[],0,[],0,[],(⟨0,0,[]⟩:fq),[]⟩:ir))) (λ w=>⟨_,_,_,_,_,rfl,DL.nil _,DL.nil _,DL.nil _,⟨_,rfl,DL.nil _⟩,DL.nil _⟩);have hs:=((hs.p1.drop).p1).drop;rw [if_neg (by simpa using gd)]
  exact ⟨_,rfl,hs.fresh⟩
 ·have yl:gK p=0:=by simpa using gd
  have Gb:=Aw yl;have hacl:=nf hz.toPS;have hffl:=NX p;refine ⟨λ jv w'=>∃ (yY:Nat) (sf:SV),jv = .pointer (some ⟨yY,0,none⟩)∧St w bD [cE yY (Flat.enc (⟨⟨none,0,0⟩,(eC p),sf,((p.locks).length:Int),⟨none,0,0⟩,(⟨0,0,⟨none,0,0⟩⟩:cL),⟨none,0,0⟩⟩:dL)),bK (Flat.val sf) (pz p),cE kK (Flat.enc (⟨bF,bQ,bG,aT,aU,aX⟩:bL)),cE ma (Flat.enc (⟨⟨none,0,0⟩,0,⟨none,0,0⟩,0,⟨none,0,0⟩,(⟨0,0,⟨none,0,0⟩⟩:cL),⟨none,0,0⟩⟩:dL))] w',?_,?_⟩
  ·have hs:=hs.drew;refine aD gF hs.p1.At (aD gF hs.p1.At (aA si (aB jF hs.p1.hb rfl ?_)));have axZ:=DL.flat (cI);refine aK j6 (axZ.ext hs.aE) ?_;refine ⟨?_,?_⟩
   ·refine aZ Zx hs (C41 p _ _ ⟨bF,bQ,bG,aT,aU,aX,rfl,(cH.ext hs.aE),(dA.ext hs.aE),(cI.ext hs.aE),(bR.ext hs.aE),(bO.ext hs.aE),(cB.ext hs.aE)⟩ hz) (λ w5 he hs=>?_);refine ⟨eU gF hs.p1.At,?_⟩;refine ⟨aG jF (hs.p1.hb.cell rfl),?_⟩;refine ⟨?_,?_⟩
    ·refine cZ aip hs (C42 p _ _ ⟨bF,bQ,bG,aT,aU,aX,rfl,(cH.ext hs.aE),(dA.ext hs.aE),(cI.ext hs.aE),(bR.ext hs.aE),(bO.ext hs.aE),(cB.ext hs.aE)⟩ hz) (λ x24 w6 bV hs=>?_);refine ⟨aG jF (hs.p2.hb.cell rfl),?_⟩;obtain ⟨aj8,rfl⟩:=(hs).fR;refine pop (wh _ _ _ _ _) (aJ hs uW (λ ax0 w7 hs=>?_));have hs:=hs.enc (cs':=Flat.enc (⟨⟨none,0,0⟩,0,⟨none,0,0⟩,0,⟨none,0,0⟩,(⟨0,0,⟨none,0,0⟩⟩:cL),⟨none,0,0⟩⟩:dL)) rfl;refine ⟨eU gF hs.p3.At,?_⟩;refine ⟨eU gF hs.p3.At,?_⟩;refine ⟨aG jF (hs.p3.hb.cell rfl),?_⟩
     refine aI (x:=(⟨⟨none,0,0⟩,(eC p),aj8,(((p).locks).length:Int),⟨none,0,0⟩,(⟨0,0,⟨none,0,0⟩⟩:cL),⟨none,0,0⟩⟩:dL)) hs r8 rfl rfl (λ w8 hs=>?_);have hs:=hs.p2.p3.p3.p3;exact ⟨_,_,rfl,hs⟩
    ·refine ⟨?_,?_⟩
     ·refine aJ hs uW (λ ax1 w9 hs=>?_);have hs:=hs.enc (cs':=Flat.enc (⟨⟨none,0,0⟩,0,⟨none,0,0⟩,0,⟨none,0,0⟩,(⟨0,0,⟨none,0,0⟩⟩:cL),⟨none,0,0⟩⟩:dL)) rfl;refine ⟨eU gF hs.p2.At,?_⟩;refine ⟨eU gF hs.p2.At,?_⟩;refine ⟨aG jF (hs.p2.hb.cell rfl),?_⟩;refine cZ aip hs (C42 p _ _ ⟨bF,bQ,bG,aT,aU,aX,rfl,(cH.ext hs.aE),(dA.ext hs.aE),(cI.ext hs.aE),(bR.ext hs.aE),(bO.ext hs.aE),(cB.ext hs.aE)⟩ hz) (λ x24_1 pP bV hs=>?_);refine ⟨aG jF (hs.p3.hb.cell rfl),?_⟩;obtain ⟨Wb,rfl⟩:=(hs).fR;refine pop (wh _ _ _ _ _) (aI (x:=(⟨⟨none,0,0⟩,(eC p),Wb,(((p).locks).length:Int),⟨none,0,0⟩,(⟨0,0,⟨none,0,0⟩⟩:cL),⟨none,0,0⟩⟩:dL)) hs.p1 r8 rfl rfl (λ sB hs=>?_))
      have hs:=hs.p2.p3.p3.p3;exact ⟨_,_,rfl,hs⟩
     ·trivial
   ·refine ⟨?_,?_⟩
    ·refine aJ hs uW (λ ax2 u7 hs=>?_);have hs:=hs.enc (cs':=Flat.enc (⟨⟨none,0,0⟩,0,⟨none,0,0⟩,0,⟨none,0,0⟩,(⟨0,0,⟨none,0,0⟩⟩:cL),⟨none,0,0⟩⟩:dL)) rfl;refine ⟨eU gF hs.p2.At,?_⟩;refine ⟨eU gF hs.p2.At,?_⟩;refine ⟨aG jF (hs.p2.hb.cell rfl),?_⟩;refine aZ Zx hs (C41 p _ _ ⟨bF,bQ,bG,aT,aU,aX,rfl,(cH.ext hs.aE),(dA.ext hs.aE),(cI.ext hs.aE),(bR.ext hs.aE),(bO.ext hs.aE),(cB.ext hs.aE)⟩ hz) (λ u9 he hs=>?_);refine ⟨eU gF hs.p2.At,?_⟩;refine ⟨aG jF (hs.p2.hb.cell rfl),?_⟩;refine cZ aip hs (C42 p _ _ ⟨bF,bQ,bG,aT,aU,aX,rfl,(cH.ext hs.aE),(dA.ext hs.aE),(cI.ext hs.aE),(bR.ext hs.aE),(bO.ext hs.aE),(cB.ext hs.aE)⟩ hz) (λ x24_2 r9 bV hs=>?_)
     refine ⟨aG jF (hs.p3.hb.cell rfl),?_⟩;obtain ⟨Wc,rfl⟩:=(hs).fR;refine pop (wh _ _ _ _ _) (aI (x:=(⟨⟨none,0,0⟩,(eC p),Wc,(((p).locks).length:Int),⟨none,0,0⟩,(⟨0,0,⟨none,0,0⟩⟩:cL),⟨none,0,0⟩⟩:dL)) hs.p1 r8 rfl rfl (λ vT hs=>?_));have hs:=hs.p2.p3.p3.p3;exact ⟨_,_,rfl,hs⟩
    ·trivial
  ·rintro _ yO ⟨yY,sf,rfl,hs⟩ fz;have hs:=(((((hs.fU (α:=Int)).p4).p4).p4).p3).p4;refine ⟨λ m x w1=>∃ (k:Nat) (sl:SV),x = .int .i64 (k:Int)∧m=(gJ p).length - k∧k≤(gJ p).length∧St w bD [cE yY (Flat.enc (⟨sl,(eC p),sf,((p.locks).length:Int),⟨none,0,0⟩,(⟨0,0,⟨none,0,0⟩⟩:cL),⟨none,0,0⟩⟩:dL)),bK (Flat.val sl) ((List.range k).map (fun (i:Nat)=>mf p i)),bK (Flat.val sf) (pz p),cE kK (Flat.enc (⟨bF,bQ,bG,aT,aU,aX⟩:bL)),cE ma (Flat.enc (⟨⟨none,0,0⟩,0,⟨none,0,0⟩,0,⟨none,0,0⟩,(⟨0,0,⟨none,0,0⟩⟩:cL),⟨none,0,0⟩⟩:dL))] w1,⟨_,0,⟨none,0,0⟩,rfl,rfl,by omega,hs⟩,?_⟩
   rintro m _ B6 ⟨k,sl,rfl,rfl,hk,hs⟩ jB;refine aA xk (aB (v:=Flat.val (sf:SV)) eA hs.hb rfl (aK ek (hs.p2).fB (aR (aC (λ nH=>?_) (λ nH=>?_)))))
   ·refine aA mD (have hs:=hs.drew;aB (v:=Flat.val (sl:SV)) eA hs.hb rfl (aD gF hs.p3.At (aZ ann hs (C43 p _ _ _ ⟨bF,bQ,bG,aT,aU,aX,rfl,(cH.ext hs.aE),(dA.ext hs.aE),(cI.ext hs.aE),(bR.ext hs.aE),(bO.ext hs.aE),(cB.ext hs.aE)⟩ hz) (λ GQ he hs=>?_))));refine ⟨aG eA (hs.hb.cell rfl),?_⟩;refine bX (([(mf p (k:Int))]:List Int)) hs ek rfl rfl (eL rfl) (λ V9 IF hs=>?_);refine ⟨aG eA (hs.p1.hb.cell rfl),?_⟩;have aj9:=(hs).fB;refine cP hs.p2 ek aj9 (by rw [List.length_map,List.length_range,List.length_singleton]; omega) (by decide) (λ s_x42 JH hs=>have hs:=hs.p1.drop;aA mD ?_)
    obtain ⟨Wd,rfl⟩:=(hs).fR;refine aV hs.p1 eA (eL rfl) (rfl) (λ Lr hs=>have hs:=hs.enc (cs':=Flat.enc (⟨Wd,(eC p),sf,((p.locks).length:Int),⟨none,0,0⟩,(⟨0,0,⟨none,0,0⟩⟩:cL),⟨none,0,0⟩⟩:dL)) rfl;aO (by omega) ?_);have hs:=hs.p4.p4.p4.p4.p4;exact ⟨_,by omega,k+1,Wd,rfl,rfl,by omega,by rw [← NW]; exact hs⟩
   ·have Vs:k=(gJ p).length:=by omega
    subst Vs;have hs:=((((((hs.xX (α:=fq)).p5).p5).p5).p5).p4).p5;refine ⟨λ m x w1=>∃ (kt:Nat) (st:SV),x = .int .i64 (kt:Int)∧m=p.threads.length - kt∧kt≤p.threads.length∧St w bD [cE yY (Flat.enc (⟨sl,(eC p),sf,((p.locks).length:Int),st,(⟨0,0,⟨none,0,0⟩⟩:cL),⟨none,0,0⟩⟩:dL)),fo (Flat.val st) ((p.threads.take kt).map (mj p)),bK (Flat.val sl) ((List.range (gJ p).length).map (fun (i:Nat)=>mf p i)),bK (Flat.val sf) (pz p),cE kK (Flat.enc (⟨bF,bQ,bG,aT,aU,aX⟩:bL)),cE ma (Flat.enc (⟨⟨none,0,0⟩,0,⟨none,0,0⟩,0,⟨none,0,0⟩,(⟨0,0,⟨none,0,0⟩⟩:cL),⟨none,0,0⟩⟩:dL))] w1,⟨_,0,⟨none,0,0⟩,rfl,rfl,by omega,hs⟩,?_⟩
    rintro m _ NS ⟨kt,st,rfl,rfl,hkt,hs⟩ oN;have hzth:=hz.threads;refine aA nj (aB jh hs.p4.hb rfl ?_);obtain ⟨ax3,aqu,aqv⟩:=(bR).open;have hn56:=aqv.1;refine aK iP (aqu.ext hs.aE) (aR (aC (λ Ad=>?_) (λ Ad=>?_)))
    ·refine aA sm (have hs:=hs.drew;aB (v:=Flat.val (st:SV)) FW hs.hb rfl (aD gF hs.p4.At (aA nj (aB jh hs.p4.hb rfl ?_))));obtain ⟨Ly,pa⟩:=gx ax3 (i:=((kt:Int)).toNat) (by omega);obtain ⟨pZ,rJ⟩:=gx ((p).threads) (i:=((kt:Int)).toNat) (by omega);obtain ⟨NZ,N3,rfl,N4,N5⟩:=aqv.2 _ _ _ pa rJ;refine aQ iP aqu (by omega) pa (λ _ wF=>aD Is (wF.ext hs.aE) ?_);obtain ⟨tb,hbf,hbs,hbo,yQ,hbq,hbx,hbw,NY,hs0,Sz⟩:=Gb.tree (t:=pZ) (List.mem_append_left _ (List.mem_of_getElem? rJ));have Lh:=hz.mP (t:=pZ) (List.mem_append_left _ (List.mem_of_getElem? rJ))
     refine ed ano (C44 p _ pZ _ tb _ ⟨bF,bQ,bG,aT,aU,aX,rfl,(cH.ext hs.aE),(dA.ext hs.aE),(cI.ext hs.aE),(bR.ext hs.aE),(bO.ext hs.aE),(cB.ext hs.aE)⟩ ⟨NZ,N3,rfl,(N4.ext hs.aE),(N5.ext hs.aE)⟩ hz ⟨Lh.1,Lh.2.1⟩ hbf hbs yQ NY) ?_;rintro _ Sy ⟨aka,rfl,bV⟩;have hs:=hs.made bV;refine ⟨aG FW (hs.p1.hb.cell rfl),?_⟩;refine eM (s:=aka) (x:=(mj p pZ)) hs Bj (by decide) (λ apn TU hs=>?_);refine ⟨aG FW (hs.p1.hb.cell rfl),?_⟩;have hs:=hs.p2;refine ee hs Bj (by simp; omega) (by decide) (λ s_x61 QQ hs=>aA sm ?_)
     obtain ⟨IV,rfl⟩:=(hs).lO;refine aV hs.p1 FW (eL rfl) (rfl) (λ Y6 hs=>have hs:=hs.enc (cs':=Flat.enc (⟨sl,(eC p),sf,((p.locks).length:Int),IV,(⟨0,0,⟨none,0,0⟩⟩:cL),⟨none,0,0⟩⟩:dL)) rfl;aO (by omega) ?_);have hs:=hs.p5.p5.p5.p5.p5.p5;exact ⟨_,by omega,kt+1,IV,rfl,rfl,by omega,by rw [← iU (k:=kt) rJ]; exact hs⟩
    ·have Vs:kt=p.threads.length:=by omega
     subst Vs;rw [List.take_length] at hs;refine ⟨λ w'=>∃ rc:cL,St w bD [cE yY (Flat.enc (⟨sl,(eC p),sf,((p.locks).length:Int),st,rc,⟨none,0,0⟩⟩:dL)),eB (λ w=>cA.dr w rc (Lv p)),fo (Flat.val st) (p.threads.map (mj p)),bK (Flat.val sl) ((List.range (gJ p).length).map (fun (i:Nat)=>mf p i)),bK (Flat.val sf) (pz p),cE kK (Flat.enc (⟨bF,bQ,bG,aT,aU,aX⟩:bL)),cE ma (Flat.enc (⟨⟨none,0,0⟩,0,⟨none,0,0⟩,0,⟨none,0,0⟩,(⟨0,0,⟨none,0,0⟩⟩:cL),⟨none,0,0⟩⟩:dL))] w',?_,?_⟩
     ·refine aA sj (aB jh hs.p4.hb rfl ?_);obtain ⟨ax5,aqw,aqx⟩:=(bO).open;have hn57:=aqx.1;refine aK iP (aqw.ext hs.aE) (dD (aC (λ KZ=>?_) (λ KZ=>?_)))
      ·have hs:=hs.drew;refine aD gF hs.p4.At (aA sj (aB jh hs.p4.hb rfl ?_));obtain ⟨e_x70,We⟩:=gx ax5 (i:=((0:Int)).toNat) (by omega);obtain ⟨Lz,BD⟩:=gx ((p).recover) (i:=((0:Int)).toNat) (by omega);obtain ⟨N6,N7,rfl,N8,N9⟩:=aqx.2 _ _ _ We BD;refine aQ iP aqw (by omega) We (λ _ LA=>aD Is (LA.ext hs.aE) ?_);obtain ⟨tb,hbf,hbs,hbo,yQ,hbq,hbx,hbw,NY,hs0,Sz⟩:=Gb.tree (t:=Lz) (List.mem_append_right _ (List.mem_of_getElem? BD));have Lh:=hz.mP (t:=Lz) (List.mem_append_right _ (List.mem_of_getElem? BD));refine ed ano (C44 p _ Lz _ tb _ ⟨bF,bQ,bG,aT,aU,aX,rfl,(cH.ext hs.aE),(dA.ext hs.aE),(cI.ext hs.aE),(bR.ext hs.aE),(bO.ext hs.aE),(cB.ext hs.aE)⟩ ⟨N6,N7,rfl,(N8.ext hs.aE),(N9.ext hs.aE)⟩ hz ⟨Lh.1,Lh.2.1⟩ hbf hbs yQ NY) ?_
       rintro _ Y7 ⟨Wf,rfl,bV⟩;have hs:=hs.made bV;refine aA zN (pF (vs:=Flat.enc Wf) hs.p1 qg rfl (eL rfl) (Flat.one _) (λ w28 hs=>?_));have hs:=hs.enc (cs':=Flat.enc (⟨sl,(eC p),sf,((p.locks).length:Int),st,Wf,⟨none,0,0⟩⟩:dL)) rfl;have hs:=hs.p6.p6.p6.p6.p6.p6.p6;have hrm:Lv p=mj p Lz:=by unfold Lv; rw [show p.recover[0]? = some Lz from BD]
       exact ⟨_,by rw [hrm]; exact hs⟩
      ·have hs:=hs.gH (Φ:=λ w=>cA.dr w (⟨0,0,⟨none,0,0⟩⟩:cL) (Lv p)) (λ w=>by rw [show Lv p=Lu from by unfold Lv; rw [List.getElem?_eq_none (by omega)]]; exact ⟨_,rfl,DL.nil _⟩);have hs:=hs.p6.p6.p6.p6.p6.p5.p6;exact ⟨_,hs⟩
     ·rintro w29 ⟨rc,hs⟩ F6;have hs:=((((((((hs.xX (α:=(List nx))).p7).p7).p7).p7).p7).p7).p6).p7;refine ⟨λ m x w1=>∃ (kc:Nat) (sc:SV),x = .int .i64 (kc:Int)∧m=p.cC.length - kc∧kc≤p.cC.length∧St w bD [cE yY (Flat.enc (⟨sl,(eC p),sf,((p.locks).length:Int),st,rc,sc⟩:dL)),fo (Flat.val sc) ((p.cC.take kc).map (λ c=>gg (o7 p) c.e)),eB (λ w=>cA.dr w rc (Lv p)),fo (Flat.val st) (p.threads.map (mj p)),bK (Flat.val sl) ((List.range (gJ p).length).map (fun (i:Nat)=>mf p i)),bK (Flat.val sf) (pz p),cE kK (Flat.enc (⟨bF,bQ,bG,aT,aU,aX⟩:bL)),cE ma (Flat.enc (⟨⟨none,0,0⟩,0,⟨none,0,0⟩,0,⟨none,0,0⟩,(⟨0,0,⟨none,0,0⟩⟩:cL),⟨none,0,0⟩⟩:dL))] w1,⟨_,0,⟨none,0,0⟩,rfl,rfl,by omega,hs⟩,?_⟩
      rintro m _ w30 ⟨kc,sc,rfl,rfl,hkc,hs⟩ QC;have hzcl:=hz.cC;refine aA kR (aB sZ hs.p6.hb rfl ?_);obtain ⟨ax6,aqy,aqz⟩:=(cB).open;have hn58:=aqz.1;refine aK yM (aqy.ext hs.aE) (aR (aC (λ Wg=>?_) (λ Wg=>?_)))
      ·refine aA kR (have hs:=hs.drew;aB sZ hs.p6.hb rfl ?_);obtain ⟨e_x85,Wh⟩:=gx ax6 (i:=((kc:Int)).toNat) (by omega);obtain ⟨agd,IW⟩:=gx ((p).cC) (i:=((kc:Int)).toNat) (by omega);obtain ⟨adw,rfl,adx⟩:=aqz.2 _ _ _ Wh IW;refine aQ yM aqy (by omega) Wh (λ _ aqA=>bT adw CU aqA rfl rfl (λ _ age=>aD mW (age.ext hs.aE) ?_));have ax7:=DL.flat (adx);refine aD gF hs.p6.At (aA pq (aB (v:=.int .i64 (eC p)) bN hs.hb rfl (cZ Un hs (C46 p _ _ ⟨bF,bQ,bG,aT,aU,aX,rfl,(cH.ext hs.aE),(dA.ext hs.aE),(cI.ext hs.aE),(bR.ext hs.aE),(bO.ext hs.aE),(cB.ext hs.aE)⟩ hz) (λ x89 w31 bV hs=>?_))))
       refine ⟨aG sZ (hs.p7.hb.cell rfl),?_⟩;refine ⟨eU mW (age.ext hs.aE),?_⟩;refine ⟨aG bN (hs.p1.hb.cell rfl),?_⟩;have QK:=mg hz.toPS;have hsl:0≤eC p∧eC p≤(fe p).length:=by unfold eC fe gJ; rw [List.length_map,List.length_append]; omega
       refine l8 mX (hs).fB (by omega) (by omega) (λ s_x92 akb=>ed Zy (C45 _ _ _ _ _ (ax7.ext hs.aE) (akb _ (hs).fB) (hz.zc _ (List.mem_of_getElem? IW)).1 (by rw [List.length_take]; omega) (hz.zc _ (List.mem_of_getElem? IW)).2) ?_);rintro _ w32 ⟨s_x93,rfl,bV⟩;have hs:=hs.made bV;refine bE rfl (bE rfl (aA xl (aB (v:=Flat.val (sc:SV)) Se hs.p2.hb rfl ?_)));obtain ⟨Wi,rfl⟩:=(hs).fR;have hs:=hs.freeze.dO (Ψ:=λ w=>cA.dr w Wi ((gg ((((fe p)).take ((eC p)).toNat)) ((agd).e)))) (λ w h=>DL.fu h);refine eM (s:=Wi) (x:=(gg ((((fe p)).take ((eC p)).toNat)) ((agd).e))) hs FX (by decide) (λ s_x99 w33 hs=>have hs:=hs.p3;ee hs FX (by simp; omega) (by decide) (λ ax8 w34 hs=>aA xl ?_))
       obtain ⟨QR,rfl⟩:=(hs).lO;refine aV hs.p2 Se (eL rfl) (rfl) (λ w35 hs=>have hs:=hs.enc (cs':=Flat.enc (⟨sl,(eC p),sf,((p.locks).length:Int),st,rc,QR⟩:dL)) rfl;aO (by omega) ?_);have hs:=(hs.p2.drop.p7.p7.p7.p7.p7.p7.p7).p7;exact ⟨_,by omega,kc+1,QR,rfl,rfl,by omega,by rw [← iU (k:=kc) IW]; exact hs⟩
      ·have Vs:kc=p.cC.length:=by omega
       subst Vs;rw [List.take_length] at hs;refine aD r8 hs.At (aI (x:=(⟨sl,(eC p),sf,((p.locks).length:Int),st,rc,sc⟩:dL)) hs.p7 r8 rfl rfl (λ w36 hs=>aD r8 hs.At ?_));have hs:=hs.p5.freeze.p6.freeze.p1.fP.p5.jO.p1.fP.p4.p1.fP.p3.jO.p1.fP.dO (Ψ:=(λ w=>cA.dr w (⟨sl,(eC p),sf,((p.locks).length:Int),st,rc,sc⟩:dL) (⟨((List.range (gJ p).length).map (fun (i:Nat)=>mf p i)),(eC p),(pz p),((p.locks).length:Int),(p.threads.map (mj p)),(Lv p),(p.cC.map (λ c=>gg (o7 p) c.e))⟩:ir))) (λ w h=>⟨_,_,_,_,_,rfl,DL.fu h.1.1.1.1,DL.fu h.1.1.1.2,h.1.1.2,h.1.2,h.2⟩)
       have hs:=(((hs.p1.drop.p1).drop).p1).drop;rw [if_pos yl];exact ⟨_,by rw [yl],hs.fresh⟩
def nK (s:ByteArray):ByteArray:=s.extract 0 (min (s.size:Int) 40).toNat
theorem pb (s:ByteArray):(nK s).size≤40:=by
 unfold nK
 rw [ByteArray.size_extract]; omega
def ady (x:dC):dC:={x with name:=nK x.name}
def yc (l:List dC):List dC:=(l.take 60).map ady
def QS (x:cG):cG:=⟨x.kind,nK x.gP,nK x.name,yc x.e,yc x.f,x.n,x.body,x.fJ,x.at_⟩
def EN (l:List cG):List cG:=(l.take 50).map QS
def adz (c:dI):dI:={c with name:=nK c.name}
def jc (l:List dI):List dI:=(l.take 8).map adz
def yy (t:dS):dS:=⟨nK t.name,(t.aN.take 6).map nK,EN t.body,t.at_⟩
def kD (l:List dS):List dS:=(l.take 4).map yy
def EO (c:jG):jG:=⟨yc c.e,c.at_⟩
def mU (p:cW):cW:=⟨(p.lines.take 6).map jc,jc p.jV,jc p.locks,kD p.threads,kD p.recover,(p.cC.take 6).map EO⟩
theorem rK {α:Type} {xs:List α} {k m:Nat} (h:k≤m) (h2:k≤xs.length) (h3:¬ (k<xs.length∧k<m)):xs.take k=xs.take m:=by
 rcases Nat.lt_or_ge k m with h4 | h4
 ·rw [List.take_of_length_le (by omega),List.take_of_length_le (by omega)]
 ·rw [show k=m from by omega]
theorem EP (l:List dC):(yc l).length≤60:=by unfold yc; rw [List.length_map,List.length_take]; omega
theorem IX (l:List dC):∀ y∈yc l,y.name.size≤1048576:=by
 intro y hy
 obtain ⟨x,_,rfl⟩:=List.mem_map.1 hy
 have:=pb x.name
 show (nK x.name).size≤_
 omega
theorem ER (l:List dI):∀ y∈jc l,y.name.size≤1048576:=by
 intro y hy
 obtain ⟨x,_,rfl⟩:=List.mem_map.1 hy
 have:=pb x.name
 show (nK x.name).size≤_
 omega
theorem BE (l:List dI):(jc l).length≤8:=by unfold jc; rw [List.length_map,List.length_take]; omega
theorem Wj (l:List cG):(EN l).length≤50:=by unfold EN; rw [List.length_map,List.length_take]; omega
theorem ES (l:List dS):(kD l).length≤4:=by unfold kD; rw [List.length_map,List.length_take]; omega
theorem adA (l:List cG):∀ y∈EN l,SzS y:=by
 intro y hy
 obtain ⟨x,_,rfl⟩:=List.mem_map.1 hy
 have h1:=pb x.gP
 have h2:=pb x.name
 have h3:=EP x.e
 have h4:=EP x.f
 exact ⟨by show (nK x.gP).size≤_; omega,by show (nK x.name).size≤_; omega,by show (yc x.e).length≤_; omega,by show (yc x.f).length≤_; omega,IX _,IX _⟩
theorem Oa (t:dS):(yy t).aN.length≤6:=by show ((t.aN.take 6).map nK).length≤6; rw [List.length_map,List.length_take]; omega
theorem G9 (l:List dS):∀ y∈kD l,SzT y∧y.aN.length≤500∧y.body.length≤500:=by
 intro y hy
 obtain ⟨x,_,rfl⟩:=List.mem_map.1 hy
 have h1:=pb x.name
 have h2:=Oa x
 have h3:=Wj x.body
 refine ⟨⟨by show (nK x.name).size≤_; omega,λ s hs=>?_,adA _⟩,by omega,by show (EN x.body).length≤_; omega⟩
 obtain ⟨z,_,rfl⟩:=List.mem_map.1 (show s∈(x.aN.take 6).map nK from hs)
 have:=pb z
 omega
theorem IY (p:cW):PZ (mU p):=by
 have hl:(mU p).lines.length≤6:=by show ((p.lines.take 6).map jc).length≤6; rw [List.length_map,List.length_take]; omega
 have hc:(mU p).cC.length≤6:=by show ((p.cC.take 6).map EO).length≤6; rw [List.length_map,List.length_take]; omega
 have h1:=BE p.jV
 have h2:=BE p.locks
 have h3:=ES p.threads
 have h4:=ES p.recover
 have hth:∀ t∈(mU p).threads++(mU p).recover,SzT t∧t.aN.length≤500∧t.body.length≤500:=by
  intro t ht
  rcases List.mem_append.1 ht with h | h
  ·exact G9 _ t h
  ·exact G9 _ t h
 refine {lines:=by omega,line:=λ l h=>?_,jV:=by show (jc p.jV).length≤500; omega,locks:=by show (jc p.locks).length≤500; omega,threads:=by show (kD p.threads).length≤500; omega,recover:=by show (kD p.recover).length≤500; omega,cC:=by omega,aN:=λ t ht=>(hth t ht).2.1,body:=λ t ht=>(hth t ht).2.2,zl:=λ l h c hc=>?_,zv:=ER _,zk:=ER _,zt:=λ t ht=>(hth t (List.mem_append_left _ ht)).1,zr:=λ t ht=>(hth t (List.mem_append_right _ ht)).1,zc:=λ c h=>?_}
 ·obtain ⟨x,_,rfl⟩:=List.mem_map.1 (show l∈(p.lines.take 6).map jc from h)
  have:=BE x; omega
 ·obtain ⟨x,_,rfl⟩:=List.mem_map.1 (show l∈(p.lines.take 6).map jc from h)
  exact ER x c hc
 ·obtain ⟨x,_,rfl⟩:=List.mem_map.1 (show c∈(p.cC.take 6).map EO from h)
  have:=EP x.e
  exact ⟨by show (yc x.e).length≤_; omega,IX _⟩
theorem C39 (lv:Value) (xs:List dC) (w:World) (hL:eE (λ _=>True) w lv xs):CR 39 [lv] w (λ v w'=>lW (bK v (yc xs)) w w'):=by
 have hs:=St.start w;refine ahO _ _ _ ?_;unfold S39;refine bX (([]:List dC)) hs lV rfl rfl (eL rfl) (λ ac9 w1 hs=>?_);refine ⟨λ m fW x w1=>∃ k:Nat,x = .int .i64 (k:Int)∧m=60 - k∧k≤60∧k≤xs.length∧St w bD [bK fW ((xs.take k).map ady)] w1,⟨_,0,rfl,rfl,by omega,by omega,hs⟩,?_⟩;rintro m fW _ w2 ⟨k,rfl,rfl,hk,JG,hs⟩ fz;have IZ:((xs.take k).map ady).length=k:=by rw [List.length_map,List.length_take]; omega
 refine ⟨λ jv w'=>jv = .bool (decide (k<xs.length∧k<60))∧St w bD [bK fW ((xs.take k).map ady)] w',?_,?_⟩
 ·refine aK lV (hL.ext hs.aE) (aR (aC (λ fH=>?_) (λ fH=>?_)))
  ·refine aR ?_;exact ⟨vb (by grind),hs⟩
  ·exact ⟨vb (by grind),hs⟩
 ·rintro _ w3 ⟨rfl,hs⟩ jB;refine aY (λ gI=>?_) (λ gI=>?_)
  ·have aqB:k<xs.length∧k<60:=by simpa using gI
   obtain ⟨iJ,fj⟩:=gx (xs) (i:=((k:Int)).toNat) (by omega);refine aQ lV hL (by omega) fj (λ _ ju=>aD Ku (ju.ext hs.aE) (aJ hs Qk (λ ur w4 hs=>aI (x:=iJ) hs Ku rfl rfl (λ w5 hs=>aA lh (aB (v:=.string ((iJ).name)) ke hs.hb rfl (aA lh (aB (v:=.string ((iJ).name)) ke hs.hb rfl (gb gN (uY (oX gN (by omega) (by omega) (aA lh (aV hs ke (eL rfl) (rfl) (λ w6 hs=>?_)))))))))))));have hs:=hs.enc (cs':=Flat.enc ({iJ with name:=(((iJ).name).extract 0 ((min (((iJ).name).size:Int) 40)).toNat)}:dC)) rfl;refine aD Ku hs.At (bX ([({iJ with name:=(((iJ).name).extract 0 ((min (((iJ).name).size:Int) 40)).toNat)}:dC)]) hs lV rfl rfl (eL rfl) (λ V1 w7 hs=>?_))
   have Ob:=(hs).fB;refine cP hs.p2 lV Ob (by rw [IZ,List.length_singleton]; omega) (by decide) (λ Wk w8 hs=>have hs:=hs.p1.drop;aO (by omega) ?_);have hs:=(hs.p1).drop;exact ⟨_,by omega,k+1,rfl,rfl,by omega,by omega,by rw [← iU (k:=k) fj]; exact hs⟩
  ·rw [rK (xs:=xs) (k:=k) (m:=60) (by omega) (by omega) (of_decide_eq_false gI)] at hs;exact hs.fresh
theorem C37 (lv:Value) (xs:List dI) (w:World) (hL:eE (λ _=>True) w lv xs):CR 37 [lv] w (λ v w'=>lW (bK v (jc xs)) w w'):=by
 have hs:=St.start w;refine ahL _ _ _ ?_;unfold S37;refine bX (([]:List dI)) hs j6 rfl rfl (eL rfl) (λ ac9 w1 hs=>?_);refine ⟨λ m fW x w1=>∃ k:Nat,x = .int .i64 (k:Int)∧m=8 - k∧k≤8∧k≤xs.length∧St w bD [bK fW ((xs.take k).map adz)] w1,⟨_,0,rfl,rfl,by omega,by omega,hs⟩,?_⟩;rintro m fW _ w2 ⟨k,rfl,rfl,hk,JG,hs⟩ fz;have IZ:((xs.take k).map adz).length=k:=by rw [List.length_map,List.length_take]; omega
 refine ⟨λ jv w'=>jv = .bool (decide (k<xs.length∧k<8))∧St w bD [bK fW ((xs.take k).map adz)] w',?_,?_⟩
 ·refine aK j6 (hL.ext hs.aE) (aR (aC (λ fH=>?_) (λ fH=>?_)))
  ·refine aR ?_;exact ⟨vb (by grind),hs⟩
  ·exact ⟨vb (by grind),hs⟩
 ·rintro _ w3 ⟨rfl,hs⟩ jB;refine aY (λ gI=>?_) (λ gI=>?_)
  ·have aqB:k<xs.length∧k<8:=by simpa using gI
   obtain ⟨iJ,fj⟩:=gx (xs) (i:=((k:Int)).toNat) (by omega);refine aQ j6 hL (by omega) fj (λ _ ju=>aD yo (ju.ext hs.aE) (aJ hs CV (λ akc w4 hs=>aI (x:=iJ) hs yo rfl rfl (λ w5 hs=>aA pL (aB (v:=.string ((iJ).name)) ke hs.hb rfl (aA pL (aB (v:=.string ((iJ).name)) ke hs.hb rfl (gb gN (uY (oX gN (by omega) (by omega) (aA pL (aV hs ke (eL rfl) (rfl) (λ w6 hs=>?_)))))))))))));have hs:=hs.enc (cs':=Flat.enc ({iJ with name:=(((iJ).name).extract 0 ((min (((iJ).name).size:Int) 40)).toNat)}:dI)) rfl;refine aD yo hs.At (bX ([({iJ with name:=(((iJ).name).extract 0 ((min (((iJ).name).size:Int) 40)).toNat)}:dI)]) hs j6 rfl rfl (eL rfl) (λ V1 w7 hs=>?_))
   have Ob:=(hs).fB;refine cP hs.p2 j6 Ob (by rw [IZ,List.length_singleton]; omega) (by decide) (λ Wk w8 hs=>have hs:=hs.p1.drop;aO (by omega) ?_);have hs:=(hs.p1).drop;exact ⟨_,by omega,k+1,rfl,rfl,by omega,by omega,by rw [← iU (k:=k) fj]; exact hs⟩
  ·rw [rK (xs:=xs) (k:=k) (m:=8) (by omega) (by omega) (of_decide_eq_false gI)] at hs;exact hs.fresh
theorem C92 (lv:Value) (xs:List cG) (w:World) (hL:DL w lv xs):CR 92 [lv] w (λ v w'=>lW (fo v (EN xs)) w w'):=by
 have hs:=St.start w;refine aiv _ _ _ ?_;unfold S92;refine wj (α:=cG) hs j7 (λ ac9 w1 hs=>?_);refine ⟨λ m fW x w1=>∃ k:Nat,x = .int .i64 (k:Int)∧m=50 - k∧k≤50∧k≤xs.length∧St w bD [fo fW ((xs.take k).map QS)] w1,⟨_,0,rfl,rfl,by omega,by omega,hs⟩,?_⟩;rintro m fW _ w2 ⟨k,rfl,rfl,hk,JG,hs⟩ fz;have IZ:((xs.take k).map QS).length=k:=by rw [List.length_map,List.length_take]; omega
 refine ⟨λ jv w'=>jv = .bool (decide (k<xs.length∧k<50))∧St w bD [fo fW ((xs.take k).map QS)] w',?_,?_⟩
 ·obtain ⟨ts60,ax9,aya⟩:=(hL).open;have hn60:=aya.1;refine aK j7 (ax9.ext hs.aE) (aR (aC (λ fH=>?_) (λ fH=>?_)))
  ·refine aR ?_;exact ⟨vb (by grind),hs⟩
  ·exact ⟨vb (by grind),hs⟩
 ·rintro _ w3 ⟨rfl,hs⟩ jB;refine aY (λ gI=>?_) (λ gI=>?_)
  ·have aqB:k<xs.length∧k<50:=by simpa using gI
   obtain ⟨ayb,ayc,aqC⟩:=(hL).open;have hn61:=aqC.1;obtain ⟨iJ,fj⟩:=gx ayb (i:=((k:Int)).toNat) (by omega);obtain ⟨dK,ou⟩:=gx (xs) (i:=((k:Int)).toNat) (by omega);obtain ⟨C4,Ax,rfl,adC,adD⟩:=aqC.2 _ _ _ fj ou;refine aQ j7 ayc (by omega) fj (λ _ ju=>aD fX (ju.ext hs.aE) (aJ hs qJ (λ ur w4 hs=>have hs:=hs.enc (cs':=Flat.enc (⟨0,(ByteArray.mk #[]),(ByteArray.mk #[]),⟨none,0,0⟩,⟨none,0,0⟩,0,0,0,0⟩:bY)) rfl;aI (x:=(⟨(dK).kind,(dK).gP,(dK).name,C4,Ax,(dK).n,(dK).body,(dK).fJ,(dK).at_⟩:bY)) hs fX rfl rfl (λ w5 hs=>aA l4 (aB (v:=.string ((dK).gP)) ke hs.hb rfl (aA l4 (aB (v:=.string ((dK).gP)) ke hs.hb rfl (gb gN (uY (oX gN (by omega) (by omega) (aA l4 ?_)))))))))))
   have ayd:=DL.flat (adC);have aye:=DL.flat (adD);refine aV hs ke (eL rfl) (rfl) (λ w6 hs=>have hs:=hs.enc (cs':=Flat.enc (⟨(dK).kind,(((dK).gP).extract 0 ((min (((dK).gP).size:Int) 40)).toNat),(dK).name,C4,Ax,(dK).n,(dK).body,(dK).fJ,(dK).at_⟩:bY)) rfl;aA jo (aB (v:=.string (dK).name) ke hs.hb rfl (aA jo (aB (v:=.string (dK).name) ke hs.hb rfl (gb gN (uY (oX gN (by omega) (by omega) (aA jo (aV hs ke (eL rfl) (rfl) (λ w7 hs=>have hs:=hs.enc (cs':=Flat.enc (⟨(dK).kind,(((dK).gP).extract 0 ((min (((dK).gP).size:Int) 40)).toNat),(((dK).name).extract 0 ((min (((dK).name).size:Int) 40)).toNat),C4,Ax,(dK).n,(dK).body,(dK).fJ,(dK).at_⟩:bY)) rfl;aA l5 (aB (v:=Flat.val (C4:SV)) mW hs.hb rfl (cZ aio hs (C39 _ _ _ (ayd.ext hs.aE)) (λ x39 w8 bV hs=>?_)))))))))))))
   refine aA l5 ?_;obtain ⟨yZ,rfl⟩:=(hs).fR;refine aV hs.p1 mW (eL rfl) (rfl) (λ w9 hs=>have hs:=hs.enc (cs':=Flat.enc (⟨(dK).kind,(((dK).gP).extract 0 ((min (((dK).gP).size:Int) 40)).toNat),(((dK).name).extract 0 ((min (((dK).name).size:Int) 40)).toNat),yZ,Ax,(dK).n,(dK).body,(dK).fJ,(dK).at_⟩:bY)) rfl;aA oc (aB (v:=Flat.val (Ax:SV)) mW hs.hb rfl (cZ aio hs (C39 _ _ _ (aye.ext hs.aE)) (λ x43 pP bV hs=>aA oc ?_))));obtain ⟨BF,rfl⟩:=(hs).fR;refine aV hs.p1 mW (eL rfl) (rfl) (λ sB hs=>have hs:=hs.enc (cs':=Flat.enc (⟨(dK).kind,(((dK).gP).extract 0 ((min (((dK).gP).size:Int) 40)).toNat),(((dK).name).extract 0 ((min (((dK).name).size:Int) 40)).toNat),yZ,BF,(dK).n,(dK).body,(dK).fJ,(dK).at_⟩:bY)) rfl;aD fX hs.At (have hs:=hs.p2.freeze.p2.freeze.p1.fP.dO (Ψ:=(λ w=>cA.dr w (⟨(dK).kind,(((dK).gP).extract 0 ((min (((dK).gP).size:Int) 40)).toNat),(((dK).name).extract 0 ((min (((dK).name).size:Int) 40)).toNat),yZ,BF,(dK).n,(dK).body,(dK).fJ,(dK).at_⟩:bY) (⟨(dK).kind,(((dK).gP).extract 0 ((min (((dK).gP).size:Int) 40)).toNat),(((dK).name).extract 0 ((min (((dK).name).size:Int) 40)).toNat),(yc (dK).e),(yc (dK).f),(dK).n,(dK).body,(dK).fJ,(dK).at_⟩:cG))) (λ w h=>⟨_,_,rfl,DL.fu h.1,DL.fu h.2⟩);eM (s:=(⟨(dK).kind,(((dK).gP).extract 0 ((min (((dK).gP).size:Int) 40)).toNat),(((dK).name).extract 0 ((min (((dK).name).size:Int) 40)).toNat),yZ,BF,(dK).n,(dK).body,(dK).fJ,(dK).at_⟩:bY)) (x:=(⟨(dK).kind,(((dK).gP).extract 0 ((min (((dK).gP).size:Int) 40)).toNat),(((dK).name).extract 0 ((min (((dK).name).size:Int) 40)).toNat),(yc (dK).e),(yc (dK).f),(dK).n,(dK).body,(dK).fJ,(dK).at_⟩:cG)) hs j7 (by decide) (λ aqD u7 hs=>have hs:=hs.p2;ee hs j7 (by rw [IZ,List.length_singleton]; omega) (by decide) (λ aqr u9 hs=>aO (by omega) ?_))))
   have hs:=(hs.p1).drop;exact ⟨_,by omega,k+1,rfl,rfl,by omega,by omega,by rw [← iU (k:=k) ou]; exact hs⟩
  ·rw [rK (xs:=xs) (k:=k) (m:=50) (by omega) (by omega) (of_decide_eq_false gI)] at hs;exact hs.fresh
set_option maxHeartbeats 4000000 in
theorem C38 (lv:Value) (xs:List dS) (w:World) (hL:DL w lv xs):CR 38 [lv] w (λ v w'=>lW (fo v (kD xs)) w w'):=by
 have hs:=St.start w;refine ahN _ _ _ ?_;unfold S38;refine wj (α:=dS) hs iP (λ Ln w1 hs=>?_);refine ⟨λ m fW x w1=>∃ k:Nat,x = .int .i64 (k:Int)∧m=4 - k∧k≤4∧k≤xs.length∧St w bD [fo fW ((xs.take k).map yy)] w1,⟨_,0,rfl,rfl,by omega,by omega,hs⟩,?_⟩;rintro m fW _ w2 ⟨k,rfl,rfl,hk,JG,hs⟩ fz;have IZ:((xs.take k).map yy).length=k:=by rw [List.length_map,List.length_take]; omega
 refine ⟨λ jv w'=>jv = .bool (decide (k<xs.length∧k<4))∧St w bD [fo fW ((xs.take k).map yy)] w',?_,?_⟩
 ·obtain ⟨ts64,ayf,ayg⟩:=(hL).open;have hn64:=ayg.1;refine aK iP (ayf.ext hs.aE) (aR (aC (λ gT=>?_) (λ gT=>?_)))
  ·refine aR ?_;exact ⟨vb (by grind),hs⟩
  ·exact ⟨vb (by grind),hs⟩
 ·rintro _ w3 ⟨rfl,hs⟩ jB;refine aY (λ js=>?_) (λ js=>?_)
  ·have hc15:k<xs.length∧k<4:=by simpa using js
   obtain ⟨ayh,Oc,aqE⟩:=(hL).open;have hn65:=aqE.1;obtain ⟨agk,pd⟩:∃ xx,ayh[((k:Int)).toNat]? = some xx:=⟨_,List.getElem?_eq_getElem (by omega)⟩;obtain ⟨fN,Wl⟩:∃ xx,(xs)[((k:Int)).toNat]? = some xx:=⟨_,List.getElem?_eq_getElem (by omega)⟩;obtain ⟨y9,Od,rfl,ET,EU⟩:=aqE.2 _ _ _ pd Wl;refine ⟨λ nq w'=>St w bD [fo nq ((xs.take k).map yy++[yy fN])] w',?_,?_⟩
   ·refine ⟨λ jv w'=>∃ (EV:Nat) (Gc:SV),jv = .pointer (some ⟨EV,0,none⟩)∧St w bD [cE EV (Flat.enc (⟨((fN).name.extract 0 (min (((fN).name).size:Int) 40).toNat),⟨none,0,0⟩,Gc,(fN).at_⟩:ei)),fo (Flat.val Gc) (EN (fN).body),fo fW ((xs.take k).map yy)] w',?_,?_⟩
    ·refine aQ iP Oc (by omega) pd (λ _ LB=>bT (fN).name zO LB rfl rfl (λ _ wL=>have hs:=hs.drew;aD ke (wL.ext hs.aE) (aQ iP Oc (by omega) pd (λ _ uw=>bT (fN).name zO uw rfl rfl (λ _ rB=>aD ke (rB.ext hs.aE) (gb gN (uY (oX gN (by omega) (by omega) (aQ iP Oc (by omega) pd (λ _ An=>bT (fN).at_ zP An rfl rfl (λ _ rL=>aD bN (rL.ext hs.aE) (aQ iP Oc (by omega) pd (λ _ Ez=>?_)))))))))))));refine bT Od qI Ez rfl rfl (λ _ uo=>aD te (uo.ext hs.aE) ?_);refine ⟨?_,?_⟩
     ·refine cZ anr hs (C92 _ _ _ (EU.ext hs.aE)) (λ x41 w4 bV hs=>?_);refine ⟨eU ke (wL.ext hs.aE),?_⟩;refine ⟨eU ke (rB.ext hs.aE),?_⟩;refine ⟨eU bN (rL.ext hs.aE),?_⟩;obtain ⟨I0,rfl⟩:=(hs).lO;refine pop (B4 _ _ _ _ _) (aJ hs Nm (λ b_t5 w5 hs=>?_));have hs:=hs.enc (cs':=Flat.enc (⟨(ByteArray.mk #[]),⟨none,0,0⟩,⟨none,0,0⟩,0⟩:ei)) rfl;refine ⟨eU ke (wL.ext hs.aE),?_⟩;refine ⟨eU ke (rB.ext hs.aE),?_⟩;refine ⟨eU bN (rL.ext hs.aE),?_⟩;refine ⟨eU te (uo.ext hs.aE),?_⟩;refine aI (x:=(⟨(((fN).name).extract 0 ((min (((fN).name).size:Int) 40)).toNat),⟨none,0,0⟩,I0,(fN).at_⟩:ei)) hs Is rfl rfl (λ w6 hs=>?_)
      have hs:=hs.p2.p2.p2;exact ⟨_,_,rfl,hs⟩
     ·refine ⟨?_,?_⟩
      ·refine aJ hs Nm (λ ayi w7 hs=>?_);have hs:=hs.enc (cs':=Flat.enc (⟨(ByteArray.mk #[]),⟨none,0,0⟩,⟨none,0,0⟩,0⟩:ei)) rfl;refine ⟨eU ke (wL.ext hs.aE),?_⟩;refine ⟨eU ke (rB.ext hs.aE),?_⟩;refine ⟨eU bN (rL.ext hs.aE),?_⟩;refine ⟨eU te (uo.ext hs.aE),?_⟩;refine cZ anr hs (C92 _ _ _ (EU.ext hs.aE)) (λ x41_1 w8 bV hs=>?_);refine ⟨eU ke (wL.ext hs.aE),?_⟩;refine ⟨eU ke (rB.ext hs.aE),?_⟩;refine ⟨eU bN (rL.ext hs.aE),?_⟩;obtain ⟨Wm,rfl⟩:=(hs).lO;refine pop (B4 _ _ _ _ _) (aI (x:=(⟨(((fN).name).extract 0 ((min (((fN).name).size:Int) 40)).toNat),⟨none,0,0⟩,Wm,(fN).at_⟩:ei)) hs.p1 Is rfl rfl (λ w9 hs=>?_))
       have hs:=hs.p2.p2.p2;exact ⟨_,_,rfl,hs⟩
      ·trivial
    ·rintro _ pP ⟨EV,Gc,rfl,hs⟩ oN;have hs:=((((hs.fU (α:=ByteArray)).p3).p3).p2).p3;refine ⟨λ m x w1=>∃ (j:Nat) (LC:SV),x = .int .i64 (j:Int)∧m=6 - j∧j≤6∧j≤(fN).aN.length∧St w bD [cE EV (Flat.enc (⟨((fN).name.extract 0 (min (((fN).name).size:Int) 40).toNat),LC,Gc,(fN).at_⟩:ei)),bK (Flat.val LC) (((fN).aN.take j).map nK),fo (Flat.val Gc) (EN (fN).body),fo fW ((xs.take k).map yy)] w1,⟨_,0,⟨none,0,0⟩,rfl,rfl,by omega,by omega,hs⟩,?_⟩;rintro m _ sB ⟨j,LC,rfl,rfl,hj,hj2,hs⟩ F6;have akd:(((fN).aN.take j).map nK).length=j:=by rw [List.length_map,List.length_take]; omega
     refine ⟨λ jv w'=>jv = .bool (decide (j<(fN).aN.length∧j<6))∧St w bD [cE EV (Flat.enc (⟨((fN).name.extract 0 (min (((fN).name).size:Int) 40).toNat),LC,Gc,(fN).at_⟩:ei)),bK (Flat.val LC) (((fN).aN.take j).map nK),fo (Flat.val Gc) (EN (fN).body),fo fW ((xs.take k).map yy)] w',?_,?_⟩
     ·refine aQ iP Oc (by omega) pd (λ _ Lj=>bT y9 jz Lj rfl rfl (λ _ sF=>aD pH (sF.ext hs.aE) ?_));have ayk:=DL.flat (ET);refine aK mX (ayk.ext hs.aE) (aR (aC (λ pX=>?_) (λ pX=>?_)))
      ·refine aR ?_;exact ⟨vb (by grind),hs⟩
      ·exact ⟨vb (by grind),hs⟩
     ·rintro _ u7 ⟨rfl,hs⟩ QC;refine aY (λ wE=>?_) (λ wE=>?_)
      ·have hc54:j<(fN).aN.length∧j<6:=by simpa using wE
       refine aA jz (have hs:=hs.drew;aB (v:=Flat.val (LC:SV)) pH hs.hb rfl (aQ iP Oc (by omega) pd (λ _ VQ=>bT y9 jz VQ rfl rfl (λ _ LD=>aD pH (LD.ext hs.aE) ?_))));have aqF:=DL.flat (ET);obtain ⟨agl,Oe⟩:=gx ((fN).aN) (i:=((j:Int)).toNat) (by omega);refine aQ mX aqF (by omega) Oe (λ _ Cb=>aD ke (Cb.ext hs.aE) (aQ iP Oc (by omega) pd (λ _ VR=>bT y9 jz VR rfl rfl (λ _ LA=>aD pH (LA.ext hs.aE) (aQ mX aqF (by omega) Oe (λ _ aqG=>aD ke (aqG.ext hs.aE) (gb gN (uY (oX gN (by omega) (by omega) (bX ([((agl).extract 0 ((min ((agl).size:Int) 40)).toNat)]) hs mX rfl rfl (eL rfl) (λ aqH u9 hs=>?_)))))))))))
       refine ⟨aG pH (hs.p1.hb.cell rfl),?_⟩;have ake:=(hs).fB;refine cP hs.p2 mX ake (by rw [akd,List.length_singleton]; omega) (by decide) (λ s_x79 r9 hs=>have hs:=hs.p1.drop;aA jz ?_);obtain ⟨Wn,rfl⟩:=(hs).fR;refine aV hs.p1 pH (eL rfl) (rfl) (λ vT hs=>have hs:=hs.enc (cs':=Flat.enc (⟨((fN).name.extract 0 (min (((fN).name).size:Int) 40).toNat),Wn,Gc,(fN).at_⟩:ei)) rfl;aO (by omega) ?_);have hs:=hs.p3.p3.p3.p3;exact ⟨_,by omega,j+1,Wn,rfl,rfl,by omega,by omega,by rw [← iU (k:=j) Oe]; exact hs⟩
      ·refine aD Is hs.At (have hs:=hs.p1.freeze.p2.jO.p1.fP.dO (Ψ:=(λ w=>cA.dr w (⟨((fN).name.extract 0 (min (((fN).name).size:Int) 40).toNat),LC,Gc,(fN).at_⟩:ei) (⟨((fN).name.extract 0 (min (((fN).name).size:Int) 40).toNat),(((fN).aN.take j).map nK),(EN (fN).body),(fN).at_⟩:dS))) (λ w h=>⟨_,_,rfl,DL.fu h.1,h.2⟩);eM (s:=(⟨((fN).name.extract 0 (min (((fN).name).size:Int) 40).toNat),LC,Gc,(fN).at_⟩:ei)) (x:=(⟨((fN).name.extract 0 (min (((fN).name).size:Int) 40).toNat),(((fN).aN.take j).map nK),(EN (fN).body),(fN).at_⟩:dS)) hs iP (by decide) (λ aqI yO hs=>have hs:=hs.p2;ee hs iP (by rw [IZ,List.length_singleton]; omega) (by decide) (λ agc B6 hs=>?_)))
       have hs:=(hs.p1).drop;rw [rK (xs:=(fN).aN) (k:=j) (m:=6) (by omega) (by omega) (of_decide_eq_false wE)] at hs;exact hs
   ·rintro nq GQ hs dd6;refine aO (by omega) ?_;exact ⟨_,by omega,k+1,rfl,rfl,by omega,by omega,by rw [← iU (k:=k) Wl]; exact hs⟩
  ·rw [rK (xs:=xs) (k:=k) (m:=4) (by omega) (by omega) (of_decide_eq_false js)] at hs;exact hs.fresh
set_option maxHeartbeats 4000000 in
theorem C11 (p:cW) (pv:bL) (w:World) (hp:cA.dr w pv p):CR 11 [Flat.val pv] w (λ v w'=>∃ qv:bL,v=Flat.val qv∧lW (eB (λ w=>cA.dr w qv (mU p))) w w'):=by
 obtain ⟨bF,bQ,bG,aT,aU,aX,rfl,cH,dA,cI,bR,bO,cB⟩:=hp;have hs:=St.start w;refine ahs _ _ _ ?_;unfold S11;refine dE hs (λ kK w1 hs=>aJ hs uU (λ ma w2 hs=>?_));have hs:=hs.enc (cs':=Flat.enc (⟨⟨none,0,0⟩,⟨none,0,0⟩,⟨none,0,0⟩,⟨none,0,0⟩,⟨none,0,0⟩,⟨none,0,0⟩⟩:bL)) rfl;refine ⟨λ jv w'=>∃ (za:Nat) (Of Og Oh Oi:SV),jv = .pointer (some ⟨za,0,none⟩)∧St w bD [cE za (Flat.enc (⟨⟨none,0,0⟩,Of,Og,Oh,Oi,⟨none,0,0⟩⟩:bL)),bK (Flat.val Of) (jc p.jV),bK (Flat.val Og) (jc p.locks),fo (Flat.val Oh) (kD p.threads),fo (Flat.val Oi) (kD p.recover),cE kK (Flat.enc (⟨bF,bQ,bG,aT,aU,aX⟩:bL)),cE ma (Flat.enc (⟨⟨none,0,0⟩,⟨none,0,0⟩,⟨none,0,0⟩,⟨none,0,0⟩,⟨none,0,0⟩,⟨none,0,0⟩⟩:bL))] w',?_,?_⟩
 ·refine aA uT (have hs:=hs.drew;aB jF hs.p1.hb rfl ?_);have aqJ:=DL.flat (dA);refine aA si (aB jF hs.p1.hb rfl ?_);have akf:=DL.flat (cI);refine aA nj (aB jh hs.p1.hb rfl (aA sj (aB jh hs.p1.hb rfl ?_)));refine ⟨?_,?_⟩
  ·refine cZ R4 hs (C37 _ _ _ (aqJ.ext hs.aE)) (λ x8 w3 bV hs=>?_);refine ⟨aG jF (hs.p2.hb.cell rfl),?_⟩;refine ⟨aG jh (hs.p2.hb.cell rfl),?_⟩;refine ⟨aG jh (hs.p2.hb.cell rfl),?_⟩;refine ⟨?_,?_⟩
   ·refine cZ R4 hs (C37 _ _ _ (akf.ext hs.aE)) (λ x11 w4 bV hs=>?_);refine ⟨aG jh (hs.p3.hb.cell rfl),?_⟩;refine ⟨aG jh (hs.p3.hb.cell rfl),?_⟩;refine ⟨?_,?_⟩
    ·refine cZ H7 hs (C38 _ _ _ (bR.ext hs.aE)) (λ x14 w5 bV hs=>?_);refine ⟨aG jh (hs.p4.hb.cell rfl),?_⟩;refine ⟨?_,?_⟩
     ·refine cZ H7 hs (C38 _ _ _ (bO.ext hs.aE)) (λ x17 w6 bV hs=>?_);obtain ⟨EW,rfl⟩:=(hs.p3).fR;obtain ⟨ml,rfl⟩:=(hs.p2).fR;obtain ⟨oC,rfl⟩:=(hs.p1).lO;obtain ⟨Wo,rfl⟩:=(hs).lO;refine pop (nc _ _ _ _ _ _ _ _ _ _ _ _) (aJ hs uU (λ b_q3 w7 hs=>?_));have hs:=hs.enc (cs':=Flat.enc (⟨⟨none,0,0⟩,⟨none,0,0⟩,⟨none,0,0⟩,⟨none,0,0⟩,⟨none,0,0⟩,⟨none,0,0⟩⟩:bL)) rfl;refine ⟨aG jF (hs.p6.hb.cell rfl),?_⟩;refine ⟨aG jF (hs.p6.hb.cell rfl),?_⟩;refine ⟨aG jh (hs.p6.hb.cell rfl),?_⟩;refine ⟨aG jh (hs.p6.hb.cell rfl),?_⟩;refine aI (x:=(⟨⟨none,0,0⟩,EW,ml,oC,Wo,⟨none,0,0⟩⟩:bL)) hs gF rfl rfl (λ w8 hs=>?_)
      have hs:=hs.p5.p6.p3.p4.p5.p6.p6;exact ⟨_,_,_,_,_,rfl,hs⟩
     ·refine ⟨?_,?_⟩
      ·refine aJ hs uU (λ ayl w9 hs=>?_);have hs:=hs.enc (cs':=Flat.enc (⟨⟨none,0,0⟩,⟨none,0,0⟩,⟨none,0,0⟩,⟨none,0,0⟩,⟨none,0,0⟩,⟨none,0,0⟩⟩:bL)) rfl;refine ⟨aG jF (hs.p5.hb.cell rfl),?_⟩;refine ⟨aG jF (hs.p5.hb.cell rfl),?_⟩;refine ⟨aG jh (hs.p5.hb.cell rfl),?_⟩;refine ⟨aG jh (hs.p5.hb.cell rfl),?_⟩;refine cZ H7 hs (C38 _ _ _ (bO.ext hs.aE)) (λ aqK pP bV hs=>?_);obtain ⟨EW,rfl⟩:=(hs.p4).fR;obtain ⟨ml,rfl⟩:=(hs.p3).fR;obtain ⟨oC,rfl⟩:=(hs.p2).lO;obtain ⟨LF,rfl⟩:=(hs).lO;refine pop (nc _ _ _ _ _ _ _ _ _ _ _ _) (aI (x:=(⟨⟨none,0,0⟩,EW,ml,oC,LF,⟨none,0,0⟩⟩:bL)) hs.p1 gF rfl rfl (λ sB hs=>?_))
       have hs:=hs.p5.p6.p3.p4.p5.p6.p6;exact ⟨_,_,_,_,_,rfl,hs⟩
      ·trivial
    ·refine ⟨?_,?_⟩
     ·refine aJ hs uU (λ aym u7 hs=>?_);have hs:=hs.enc (cs':=Flat.enc (⟨⟨none,0,0⟩,⟨none,0,0⟩,⟨none,0,0⟩,⟨none,0,0⟩,⟨none,0,0⟩,⟨none,0,0⟩⟩:bL)) rfl;refine ⟨aG jF (hs.p4.hb.cell rfl),?_⟩;refine ⟨aG jF (hs.p4.hb.cell rfl),?_⟩;refine ⟨aG jh (hs.p4.hb.cell rfl),?_⟩;refine ⟨aG jh (hs.p4.hb.cell rfl),?_⟩;refine cZ H7 hs (C38 _ _ _ (bR.ext hs.aE)) (λ x14_1 u9 bV hs=>?_);refine ⟨aG jh (hs.p5.hb.cell rfl),?_⟩;refine cZ H7 hs (C38 _ _ _ (bO.ext hs.aE)) (λ aqL r9 bV hs=>?_);obtain ⟨EW,rfl⟩:=(hs.p4).fR;obtain ⟨ml,rfl⟩:=(hs.p3).fR;obtain ⟨Wp,rfl⟩:=(hs.p1).lO
      obtain ⟨LG,rfl⟩:=(hs).lO;refine pop (nc _ _ _ _ _ _ _ _ _ _ _ _) (aI (x:=(⟨⟨none,0,0⟩,EW,ml,Wp,LG,⟨none,0,0⟩⟩:bL)) hs.p2 gF rfl rfl (λ vT hs=>?_));have hs:=hs.p5.p6.p3.p4.p5.p6.p6;exact ⟨_,_,_,_,_,rfl,hs⟩
     ·trivial
   ·refine ⟨?_,?_⟩
    ·refine aJ hs uU (λ ayn yO hs=>?_);have hs:=hs.enc (cs':=Flat.enc (⟨⟨none,0,0⟩,⟨none,0,0⟩,⟨none,0,0⟩,⟨none,0,0⟩,⟨none,0,0⟩,⟨none,0,0⟩⟩:bL)) rfl;refine ⟨aG jF (hs.p3.hb.cell rfl),?_⟩;refine ⟨aG jF (hs.p3.hb.cell rfl),?_⟩;refine ⟨aG jh (hs.p3.hb.cell rfl),?_⟩;refine ⟨aG jh (hs.p3.hb.cell rfl),?_⟩;refine cZ R4 hs (C37 _ _ _ (akf.ext hs.aE)) (λ x11_1 B6 bV hs=>?_);refine ⟨aG jh (hs.p4.hb.cell rfl),?_⟩;refine ⟨aG jh (hs.p4.hb.cell rfl),?_⟩;refine cZ H7 hs (C38 _ _ _ (bR.ext hs.aE)) (λ x14_2 GQ bV hs=>?_);refine ⟨aG jh (hs.p5.hb.cell rfl),?_⟩
     refine cZ H7 hs (C38 _ _ _ (bO.ext hs.aE)) (λ x17_3 IF bV hs=>?_);obtain ⟨EW,rfl⟩:=(hs.p4).fR;obtain ⟨Wq,rfl⟩:=(hs.p2).fR;obtain ⟨Wr,rfl⟩:=(hs.p1).lO;obtain ⟨Ws,rfl⟩:=(hs).lO;refine pop (nc _ _ _ _ _ _ _ _ _ _ _ _) (aI (x:=(⟨⟨none,0,0⟩,EW,Wq,Wr,Ws,⟨none,0,0⟩⟩:bL)) hs.p3 gF rfl rfl (λ JH hs=>?_));have hs:=hs.p5.p6.p3.p4.p5.p6.p6;exact ⟨_,_,_,_,_,rfl,hs⟩
    ·trivial
  ·refine ⟨?_,?_⟩
   ·refine aJ hs uU (λ ayo Lr hs=>?_);have hs:=hs.enc (cs':=Flat.enc (⟨⟨none,0,0⟩,⟨none,0,0⟩,⟨none,0,0⟩,⟨none,0,0⟩,⟨none,0,0⟩,⟨none,0,0⟩⟩:bL)) rfl;refine ⟨aG jF (hs.p2.hb.cell rfl),?_⟩;refine ⟨aG jF (hs.p2.hb.cell rfl),?_⟩;refine ⟨aG jh (hs.p2.hb.cell rfl),?_⟩;refine ⟨aG jh (hs.p2.hb.cell rfl),?_⟩;refine cZ R4 hs (C37 _ _ _ (aqJ.ext hs.aE)) (λ x8_1 NS bV hs=>?_);refine ⟨aG jF (hs.p3.hb.cell rfl),?_⟩;refine ⟨aG jh (hs.p3.hb.cell rfl),?_⟩;refine ⟨aG jh (hs.p3.hb.cell rfl),?_⟩;refine cZ R4 hs (C37 _ _ _ (akf.ext hs.aE)) (λ x11_2 Sy bV hs=>?_)
    refine ⟨aG jh (hs.p4.hb.cell rfl),?_⟩;refine ⟨aG jh (hs.p4.hb.cell rfl),?_⟩;refine cZ H7 hs (C38 _ _ _ (bR.ext hs.aE)) (λ x14_3 TU bV hs=>?_);refine ⟨aG jh (hs.p5.hb.cell rfl),?_⟩;refine cZ H7 hs (C38 _ _ _ (bO.ext hs.aE)) (λ x17_4 QQ bV hs=>?_);obtain ⟨C6,rfl⟩:=(hs.p3).fR;obtain ⟨Wt,rfl⟩:=(hs.p2).fR;obtain ⟨Wu,rfl⟩:=(hs.p1).lO;obtain ⟨Wv,rfl⟩:=(hs).lO;refine pop (nc _ _ _ _ _ _ _ _ _ _ _ _) (aI (x:=(⟨⟨none,0,0⟩,C6,Wt,Wu,Wv,⟨none,0,0⟩⟩:bL)) hs.p4 gF rfl rfl (λ Y6 hs=>?_));have hs:=hs.p5.p6.p3.p4.p5.p6.p6
    exact ⟨_,_,_,_,_,rfl,hs⟩
   ·trivial
 ·rintro _ Y7 ⟨za,Of,Og,Oh,Oi,rfl,hs⟩ fz;have hs:=((((((((hs.xX (α:=(List dI))).p7).p7).p7).p7).p7).p7).p6).p7;refine ⟨λ m x w1=>∃ (k:Nat) (sl:SV),x = .int .i64 (k:Int)∧m=6 - k∧k≤6∧k≤p.lines.length∧St w bD [cE za (Flat.enc (⟨sl,Of,Og,Oh,Oi,⟨none,0,0⟩⟩:bL)),fo (Flat.val sl) ((p.lines.take k).map jc),bK (Flat.val Of) (jc p.jV),bK (Flat.val Og) (jc p.locks),fo (Flat.val Oh) (kD p.threads),fo (Flat.val Oi) (kD p.recover),cE kK (Flat.enc (⟨bF,bQ,bG,aT,aU,aX⟩:bL)),cE ma (Flat.enc (⟨⟨none,0,0⟩,⟨none,0,0⟩,⟨none,0,0⟩,⟨none,0,0⟩,⟨none,0,0⟩,⟨none,0,0⟩⟩:bL))] w1,⟨_,0,⟨none,0,0⟩,rfl,rfl,by omega,by omega,hs⟩,?_⟩
  rintro m _ w28 ⟨k,sl,rfl,rfl,hk,JG,hs⟩ jB;have IZ:((p.lines.take k).map jc).length=k:=by rw [List.length_map,List.length_take]; omega
  refine ⟨λ jv w'=>jv = .bool (decide (k<p.lines.length∧k<6))∧St w bD [cE za (Flat.enc (⟨sl,Of,Og,Oh,Oi,⟨none,0,0⟩⟩:bL)),fo (Flat.val sl) ((p.lines.take k).map jc),bK (Flat.val Of) (jc p.jV),bK (Flat.val Og) (jc p.locks),fo (Flat.val Oh) (kD p.threads),fo (Flat.val Oi) (kD p.recover),cE kK (Flat.enc (⟨bF,bQ,bG,aT,aU,aX⟩:bL)),cE ma (Flat.enc (⟨⟨none,0,0⟩,⟨none,0,0⟩,⟨none,0,0⟩,⟨none,0,0⟩,⟨none,0,0⟩,⟨none,0,0⟩⟩:bL))] w',?_,?_⟩
  ·refine aA jx (aB r7 hs.p6.hb rfl ?_);obtain ⟨ts70,ayp,ayq⟩:=(cH).open;have hn70:=ayq.1;refine aK vM (ayp.ext hs.aE) (aR (aC (λ iT=>?_) (λ iT=>?_)))
   ·refine aR ?_;exact ⟨vb (by grind),hs⟩
   ·exact ⟨vb (by grind),hs⟩
  ·rintro _ w29 ⟨rfl,hs⟩ oN;refine aY (λ gh=>?_) (λ gh=>?_)
   ·have hc27:k<p.lines.length∧k<6:=by simpa using gh
    refine aA jx (have hs:=hs.drew;aB (v:=Flat.val (sl:SV)) r7 hs.hb rfl (aA jx (aB r7 hs.p6.hb rfl ?_)));obtain ⟨ayr,ays,aqM⟩:=(cH).open;have hn71:=aqM.1;obtain ⟨aqN,Ww⟩:=gx ayr (i:=((k:Int)).toNat) (by omega);obtain ⟨Wx,Wy⟩:=gx ((p).lines) (i:=((k:Int)).toNat) (by omega);have aqO:DL w (Flat.val aqN) Wx:=aqM.2 _ _ _ Ww Wy;refine aQ vM ays (by omega) Ww (λ _ z9=>aD jF (z9.ext hs.aE) ?_);have ayt:=DL.flat (aqO);refine cZ R4 hs (C37 _ _ _ (ayt.ext hs.aE)) (λ x37 w30 bV hs=>?_);refine ⟨aG r7 (hs.p1.hb.cell rfl),?_⟩;obtain ⟨o9,rfl⟩:=(hs).fR
    have hs:=hs.freeze.dO (Ψ:=λ w=>cA.dr w o9 ((jc Wx))) (λ w h=>DL.fu h);refine eM (s:=o9) (x:=(jc Wx)) hs vM (by decide) (λ aga w31 hs=>?_);refine ⟨aG r7 (hs.p1.hb.cell rfl),?_⟩;have hs:=hs.p2;refine ee hs vM (by rw [IZ,List.length_singleton]; omega) (by decide) (λ agm w32 hs=>aA jx ?_);obtain ⟨yZ,rfl⟩:=(hs).lO;refine aV hs.p1 r7 (eL rfl) (rfl) (λ w33 hs=>have hs:=hs.enc (cs':=Flat.enc (⟨yZ,Of,Og,Oh,Oi,⟨none,0,0⟩⟩:bL)) rfl;aO (by omega) ?_);have hs:=hs.p7.p7.p7.p7.p7.p7.p7.p7;exact ⟨_,by omega,k+1,yZ,rfl,rfl,by omega,by omega,by rw [← iU (k:=k) Wy]; exact hs⟩
   ·rw [rK (xs:=p.lines) (k:=k) (m:=6) (by omega) (by omega) (of_decide_eq_false gh)] at hs;have hs:=(((((((((hs.xX (α:=jG)).p8).p8).p8).p8).p8).p8).p8).p7).p8;refine ⟨λ m x w1=>∃ (j:Nat) (sc:SV),x = .int .i64 (j:Int)∧m=6 - j∧j≤6∧j≤p.cC.length∧St w bD [cE za (Flat.enc (⟨sl,Of,Og,Oh,Oi,sc⟩:bL)),fo (Flat.val sc) ((p.cC.take j).map EO),fo (Flat.val sl) ((p.lines.take 6).map jc),bK (Flat.val Of) (jc p.jV),bK (Flat.val Og) (jc p.locks),fo (Flat.val Oh) (kD p.threads),fo (Flat.val Oi) (kD p.recover),cE kK (Flat.enc (⟨bF,bQ,bG,aT,aU,aX⟩:bL)),cE ma (Flat.enc (⟨⟨none,0,0⟩,⟨none,0,0⟩,⟨none,0,0⟩,⟨none,0,0⟩,⟨none,0,0⟩,⟨none,0,0⟩⟩:bL))] w1,⟨_,0,⟨none,0,0⟩,rfl,rfl,by omega,by omega,hs⟩,?_⟩
    rintro m _ w34 ⟨j,sc,rfl,rfl,hj,hj2,hs⟩ F6;have akd:((p.cC.take j).map EO).length=j:=by rw [List.length_map,List.length_take]; omega
    refine ⟨λ jv w'=>jv = .bool (decide (j<p.cC.length∧j<6))∧St w bD [cE za (Flat.enc (⟨sl,Of,Og,Oh,Oi,sc⟩:bL)),fo (Flat.val sc) ((p.cC.take j).map EO),fo (Flat.val sl) ((p.lines.take 6).map jc),bK (Flat.val Of) (jc p.jV),bK (Flat.val Og) (jc p.locks),fo (Flat.val Oh) (kD p.threads),fo (Flat.val Oi) (kD p.recover),cE kK (Flat.enc (⟨bF,bQ,bG,aT,aU,aX⟩:bL)),cE ma (Flat.enc (⟨⟨none,0,0⟩,⟨none,0,0⟩,⟨none,0,0⟩,⟨none,0,0⟩,⟨none,0,0⟩,⟨none,0,0⟩⟩:bL))] w',?_,?_⟩
    ·refine aA kR (aB sZ hs.p7.hb rfl ?_);obtain ⟨ts73,ayu,ayv⟩:=(cB).open;have hn73:=ayv.1;refine aK yM (ayu.ext hs.aE) (aR (aC (λ kN=>?_) (λ kN=>?_)))
     ·refine aR ?_;exact ⟨vb (by grind),hs⟩
     ·exact ⟨vb (by grind),hs⟩
    ·rintro _ w35 ⟨rfl,hs⟩ QC;refine aY (λ vF=>?_) (λ vF=>?_)
     ·have hc49:j<p.cC.length∧j<6:=by simpa using vF
      refine aA kR (have hs:=hs.drew;aB (v:=Flat.val (sc:SV)) sZ hs.hb rfl (aA kR (aB sZ hs.p7.hb rfl ?_)));obtain ⟨ayw,aqP,aqQ⟩:=(cB).open;have hn74:=aqQ.1;obtain ⟨Ly,pa⟩:=gx ayw (i:=((j:Int)).toNat) (by omega);obtain ⟨pZ,rJ⟩:=gx ((p).cC) (i:=((j:Int)).toNat) (by omega);obtain ⟨adE,rfl,adF⟩:=aqQ.2 _ _ _ pa rJ;refine aQ yM aqP (by omega) pa (λ _ wF=>bT adE CU wF rfl rfl (λ _ Ao=>aD mW (Ao.ext hs.aE) ?_));have ayx:=DL.flat (adF);refine aA kR (aB sZ hs.p7.hb rfl (aQ yM aqP (by omega) pa (λ _ Ev=>bT (pZ).at_ Qj Ev rfl rfl (λ _ Cb=>aD bN (Cb.ext hs.aE) (cZ aio hs (C39 _ _ _ (ayx.ext hs.aE)) (λ x60 w36 bV hs=>?_))))))
      refine ⟨aG sZ (hs.p1.hb.cell rfl),?_⟩;refine ⟨aG sZ (hs.p8.hb.cell rfl),?_⟩;refine ⟨eU bN (Cb.ext hs.aE),?_⟩;obtain ⟨BG,rfl⟩:=(hs).fR;refine pop (GL _ _ _ _) (have hs:=hs.freeze.dO (Ψ:=(λ w=>cA.dr w (⟨BG,(pZ).at_⟩:lP) (⟨(yc (pZ).e),(pZ).at_⟩:jG))) (λ w h=>⟨_,rfl,DL.fu h⟩);eM (s:=(⟨BG,(pZ).at_⟩:lP)) (x:=(⟨(yc (pZ).e),(pZ).at_⟩:jG)) hs yM (by decide) (λ s_x68 w37 hs=>?_));refine ⟨aG sZ (hs.p1.hb.cell rfl),?_⟩;have hs:=hs.p2;refine ee hs yM (by rw [akd,List.length_singleton]; omega) (by decide) (λ s_x69 w38 hs=>aA kR ?_)
      obtain ⟨Wz,rfl⟩:=(hs).lO;refine aV hs.p1 sZ (eL rfl) (rfl) (λ WA hs=>have hs:=hs.enc (cs':=Flat.enc (⟨sl,Of,Og,Oh,Oi,Wz⟩:bL)) rfl;aO (by omega) ?_);have hs:=hs.p8.p8.p8.p8.p8.p8.p8.p8.p8;exact ⟨_,by omega,j+1,Wz,rfl,rfl,by omega,by omega,by rw [← iU (k:=j) rJ]; exact hs⟩
     ·refine aD gF hs.At (aI (x:=(⟨sl,Of,Og,Oh,Oi,sc⟩:bL)) hs.p8 gF rfl rfl (λ w40 hs=>aD gF hs.At ?_));rw [rK (xs:=p.cC) (k:=j) (m:=6) (by omega) (by omega) (of_decide_eq_false vF)] at hs;have hs:=hs.p3.jO.p4.freeze.p1.fP.p4.freeze.p1.fP.p4.jO.p1.fP.p4.jO.p1.fP;have hs:=hs.p3.jO.p1.fP.dO (Ψ:=(λ w=>cA.dr w (⟨sl,Of,Og,Oh,Oi,sc⟩:bL) (⟨((p.lines.take 6).map jc),(jc p.jV),(jc p.locks),(kD p.threads),(kD p.recover),((p.cC.take 6).map EO)⟩:cW))) (λ w h=>⟨_,_,_,_,_,_,rfl,h.1.1.1.1.1,DL.fu h.1.1.1.1.2,DL.fu h.1.1.1.2,h.1.1.2,h.1.2,h.2⟩)
      have hs:=(((hs.p1.drop.p1).drop).p1).drop;exact ⟨_,rfl,hs.fresh⟩
def LH (n many:Int):Bool:=decide (0≤n) && decide (n<many)
def sK (k:Int):Bool:=decide (k=1) || decide (k=3) || decide (k=4) || decide (k=12) || decide (k=15)
def aM (x:aW) (aN counts:Int):Bool:=if x.kind=13∨x.kind=14 then LH x.a counts else if x.kind=1∨x.kind=2∨x.kind=4 then LH x.a aN else decide (x.a=0)
def bM (x:aW) (cells lines locks:Int):Bool:=if x.kind=2∨x.kind=3∨x.kind=4 then LH x.b cells else if x.kind=5∨x.kind=6 then LH x.b lines else if x.kind=9∨x.kind=10 then LH x.b locks else if x.kind=13 then decide (1≤x.b) && decide (x.b≤8) else decide (x.b=0)
def efM (x:aW) (aN:Int):Bool:=(if sK x.kind=true then eN x.e aN else !decide (0<(x.e.length:Int))) && (if x.kind=4 then eN x.f aN else !decide (0<(x.f.length:Int)))
def vm (x:aW) (c:fq) (cells lines locks:Int):Bool:=efM x c.aN && (decide (1≤x.kind) && decide (x.kind≤15) && aM x c.aN c.counts && bM x cells lines locks)
def sL (y:aW) (a:Int):Bool:=decide (y.kind=13) && decide (y.a=a)
def btM (l:List aW) (i:Nat) (x:aW):Bool:=decide (1≤x.to) && decide (x.to≤i) && (match l[(x.to - 1).toNat]? with | some y=>sL y x.a | none=>false)
theorem WB {l:List aW} {i:Nat} {x y:aW} (h1:1≤x.to) (h2:x.to≤i) (h:l[(x.to - 1).toNat]? = some y):btM l i x=sL y x.a:=by unfold btM; rw [h,decide_eq_true h1,decide_eq_true h2]; rfl
theorem LI {l:List aW} {i:Nat} {x:aW} (h:x.to<1∨(i:Int)<x.to):btM l i x=false:=by
 unfold btM
 rcases h with h | h
 ·rw [decide_eq_false (show ¬ 1≤x.to by omega)]; rfl
 ·rw [decide_eq_false (show ¬ x.to≤(i:Int) by omega)]; simp
theorem aqS {l:List aW} {i:Nat} {x:aW} (h:btM l i x=true):1≤x.to∧x.to≤i:=by
 by_cases h1:x.to<1∨(i:Int)<x.to
 ·rw [LI h1] at h; cases h
 ·omega
def Cc (l:List aW) (i:Nat) (x:aW):Bool:=btM l i x && !((l.take i).drop x.to.toNat).any (λ y=>sL y x.a)
def I1 (l:List aW) (i:Nat) (x:aW):Bool:=if x.kind=11∨x.kind=12 then decide ((i:Int)<x.to) && decide (x.to≤l.length) else if x.kind=14 then Cc l i x else decide (x.to=0)
def vn (c:fq) (cells lines locks:Int) (i:Nat):Bool:=match c.l[i]? with | some x=>!vm x c cells lines locks || !I1 c.l i x | none=>false
def vo (l:List aW) (x:aW) (k:Nat):Bool:=match l[k]? with | some y=>decide (y.kind=14) && !(decide (x.to≤y.to) || decide ((k:Int)+1<x.to)) | none=>false
def qK (l:List aW) (i:Nat):Bool:=match l[i]? with | some x=>decide (x.kind=14) && (List.range i).any (vo l x) | none=>false
def vp (c:fq):Bool:=decide (c.aN<0) || decide (4<c.aN) || decide (c.counts<0) || decide (12<c.counts)
def ly (c:fq) (cells lines locks:Int):Bool:=!vp c && !(List.range c.l.length).any (vn c cells lines locks) && !(List.range c.l.length).any (qK c.l)
def gq (u:ir):Int:=if 1≤u.stays∧u.stays≤u.lines.length then u.lines.getD (u.stays - 1).toNat 0+1 else 0
def lz (l:List Int) (i:Nat):Int:=if i=0 then 0 else l.getD (i - 1) 0+1
def kf (u:ir) (i:Nat):Bool:=match u.lines[i]? with | some n=>decide (¬ n=lz u.lines i) && (decide (i=0) || decide (u.stays≤i) || decide (¬ n=lz u.lines i - 1)) | none=>false
def lB (n:Int):Bool:=decide (n<0) || decide (4294967296<n)
def kW (u:ir):Bool:=decide (20<(u.lines.length:Int)) || decide (u.stays<0) || decide ((u.lines.length:Int)<u.stays) || decide (¬ (u.dF.length:Int)=u.lines.length) || decide (u.locks<0) || decide (2<u.locks) || decide ((u.threads.length:Int)<1) || decide (3<(u.threads.length:Int))
def nA (u:ir):Bool:=!kW u && (!u.dF.any lB && !(List.range u.lines.length).any (kf u) && !u.threads.any (λ c=>!ly c u.lines.length (gq u) u.locks) && !u.cC.any (λ l=>!eN l u.stays) && ly u.recover u.lines.length (gq u) u.locks)
structure CZ (c:fq):Prop where
 l:c.l.length≤1000
 ef:∀ x∈c.l,x.e.length≤1000∧x.f.length≤1000
structure UZ (u:ir):Prop where
 lines:u.lines.length≤1000
 dF:u.dF.length≤1000
 threads:u.threads.length≤1000
 cC:u.cC.length≤1000
 th:∀ c∈u.threads,CZ c
 rc:CZ u.recover
 cl:∀ l∈u.cC,l.length≤1000
theorem ux {c:fq} {cells lines locks:Int} {i:Nat} {x:aW} (h:c.l[i]? = some x):vn c cells lines locks i=(!vm x c cells lines locks || !I1 c.l i x):=by unfold vn; rw [h]
theorem Ay {l:List aW} {x y:aW} {k:Nat} (h:l[k]? = some y):vo l x k=(decide (y.kind=14) && !(decide (x.to≤y.to) || decide ((k:Int)+1<x.to))):=by unfold vo; rw [h]
theorem xC {l:List aW} {i:Nat} {x:aW} (h:l[i]? = some x):qK l i=(decide (x.kind=14) && (List.range i).any (vo l x)):=by unfold qK; rw [h]
theorem adH {l:List aW} {i:Nat} {x:aW} (h:Cc l i x=true):1≤x.to∧x.to≤i:=by unfold Cc at h; rw [Bool.and_eq_true] at h; exact aqS h.1
theorem WC {l:List aW} {i:Nat} {x:aW} (hk:x.kind=14) (h:I1 l i x=true):1≤x.to∧x.to≤i:=by
 unfold I1 at h; rw [if_neg (by omega),if_pos hk] at h; exact adH h
theorem WD {l:List aW} {i:Nat} {x:aW} (h:btM l i x=false):Cc l i x=false:=by unfold Cc; rw [h]; rfl
theorem Ha {f:Nat→Bool} {n:Nat} (h:(List.range n).any f=false):∀ j,j<n→f j=false:=λ j hj=>by
 rw [List.any_eq_false] at h
 have:=h j (List.mem_range.2 hj)
 simpa using this
theorem EX {u:ir} {k:Nat} (h:∀ j,j<k→kf u j=false):∀ j n,j<k→u.lines[j]? = some n→-1≤n∧n≤j
 | 0,n,hj,hn=>by
  have:=h 0 hj
  unfold kf lz at this
  rw [hn] at this
  simp at this
  omega
 | j+1,n,hj,hn=>by
  have mF:=(List.getElem?_eq_some_iff.1 hn).1
  obtain ⟨m,hm⟩:∃ m,u.lines[j]? = some m:=⟨_,List.getElem?_eq_getElem (by omega)⟩
  have ih:=EX h j m (by omega) hm
  have:=h (j+1) hj
  unfold kf lz at this
  rw [hn] at this
  simp only [Nat.add_one_ne_zero,if_false,Nat.add_sub_cancel,List.getD_eq_getElem?_getD,hm,Option.getD_some,decide_false,Bool.false_or,Bool.and_eq_false_iff,decide_eq_false_iff_not,Bool.or_eq_false_iff,Decidable.not_not] at this
  omega
theorem Hb {u:ir} {k:Nat} {n:Int} (h:u.lines[k]? = some n):kf u k=(decide (¬ n=lz u.lines k) && (decide ((k:Int)=0) || decide (u.stays≤k) || decide (¬ n=lz u.lines k - 1))):=by
 unfold kf; rw [h]; simp only []
 congr 2
 congr 1
 exact decide_eq_decide.2 (by omega)
theorem LJ {u:ir} (h:∀ j,j<u.lines.length→kf u j=false):∀ n∈u.lines,-1≤n∧n≤(u.lines.length:Int):=by
 intro n hn
 obtain ⟨j,hj,he⟩:=List.mem_iff_getElem.1 hn
 have:=EX h j n hj (by rw [List.getElem?_eq_getElem hj,he])
 omega
theorem Oj {u:ir} (h:kW u=false):u.lines.length≤20∧0≤u.stays∧u.stays≤u.lines.length∧u.dF.length=u.lines.length∧0≤u.locks∧u.locks≤2∧1≤u.threads.length∧u.threads.length≤3:=by
 unfold kW at h
 simp only [Bool.or_eq_false_iff,decide_eq_false_iff_not] at h
 omega
def akh:List ByteArray:=[⟨#[]⟩,⟨#[114,101]⟩,⟨#[114,99]⟩,⟨#[99,101]⟩,⟨#[114,99,101,102]⟩,⟨#[108]⟩,⟨#[108]⟩,⟨#[]⟩,⟨#[]⟩,⟨#[109]⟩,⟨#[109]⟩,⟨#[116]⟩,⟨#[101,116]⟩,⟨#[107,110]⟩,⟨#[107,116]⟩,⟨#[101]⟩]
def aki:Array Value:=#[.string ⟨#[]⟩,.string ⟨#[114,101]⟩,.string ⟨#[114,99]⟩,.string ⟨#[99,101]⟩,.string ⟨#[114,99,101,102]⟩,.string ⟨#[108]⟩,.string ⟨#[108]⟩,.string ⟨#[]⟩,.string ⟨#[]⟩,.string ⟨#[109]⟩,.string ⟨#[109]⟩,.string ⟨#[116]⟩,.string ⟨#[101,116]⟩,.string ⟨#[107,110]⟩,.string ⟨#[107,116]⟩,.string ⟨#[101]⟩]
def hasB (k c:Int):Bool:=er (akh.getD k.toNat ⟨#[]⟩) c
theorem oD {k:Int} (h:1≤k∧k≤15):hasB k 114=decide (k=1∨k=2∨k=4)∧hasB k 107=decide (k=13∨k=14)∧hasB k 99=decide (k=2∨k=3∨k=4)∧hasB k 108=decide (k=5∨k=6)∧hasB k 109=decide (k=9∨k=10)∧hasB k 110=decide (k=13)∧hasB k 101=sK k∧hasB k 102=decide (k=4)∧hasB k 116=decide (k=11∨k=12∨k=14):=by
 obtain rfl | rfl | rfl | rfl | rfl | rfl | rfl | rfl | rfl | rfl | rfl | rfl | rfl | rfl | rfl:k=1∨k=2∨k=3∨k=4∨k=5∨k=6∨k=7∨k=8∨k=9∨k=10∨k=11∨k=12∨k=13∨k=14∨k=15:=by omega
 all_goals decide
def k14 (l:List aW) (i:Nat):Bool:=match l[i]? with | some x=>decide (x.kind=14) | none=>false
def oE (l:List aW) (k:Nat):List Int:=((List.range k).filter (k14 l)).map (fun (n:Nat)=>(n:Int))
theorem Hc (l:List aW) (k:Nat):(oE l k).length≤k:=by
 unfold oE
 rw [List.length_map]
 have:=List.length_filter_le (k14 l) (List.range k)
 rw [List.length_range] at this; exact this
theorem WE {l:List aW} {k:Nat} {x:aW} (h:l[k]? = some x) (hk:¬ x.kind=14):oE l k=oE l (k+1):=by
 have:k14 l k=false:=by unfold k14; rw [h]; exact decide_eq_false hk
 unfold oE; rw [List.range_succ,List.filter_append,List.filter_cons_of_neg (by rw [this]; decide),List.filter_nil,List.append_nil]
theorem SA {l:List aW} {k:Nat} {x:aW} (h:l[k]? = some x) (hk:x.kind=14):oE l k++[(k:Int)]=oE l (k+1):=by
 have:k14 l k=true:=by unfold k14; rw [h]; exact decide_eq_true hk
 unfold oE; rw [List.range_succ,List.filter_append,List.filter_cons_of_pos this,List.filter_nil,List.map_append]; rfl
theorem SB {l:List aW} {k:Nat} {e:Int} (h:e∈oE l k):∃ j:Nat,e=j∧j<k∧∃ y,l[j]? = some y∧y.kind=14:=by
 unfold oE at h
 obtain ⟨j,hj,rfl⟩:=List.mem_map.1 h
 obtain ⟨h1,h2⟩:=List.mem_filter.1 hj
 refine ⟨j,rfl,List.mem_range.1 h1,?_⟩
 unfold k14 at h2
 cases hy:l[j]? with
 | none=>rw [hy] at h2; cases h2
 | some y=>rw [hy] at h2; exact ⟨y,rfl,of_decide_eq_true h2⟩
theorem WG {l:List aW} {k:Nat} {x:aW} (h:∀ e∈oE l k,vo l x e.toNat=false):(List.range k).any (vo l x)=false:=by
 refine ng λ j hj=>?_
 cases hy:l[j]? with
 | none=>unfold vo; rw [hy]
 | some y=>
  by_cases hk:y.kind=14
  ·exact h (j:Int) (List.mem_map.2 ⟨j,List.mem_filter.2 ⟨List.mem_range.2 hj,by unfold k14; rw [hy]; exact decide_eq_true hk⟩,rfl⟩)
  ·rw [Ay hy,decide_eq_false hk]; rfl
def ago (l:List aW):Prop:=∀ (i:Nat) (x:aW),l[i]? = some x→x.kind=14→1≤x.to∧x.to≤i
theorem List.fw {α:Type} {l l':List α} {f g:α→Bool} (h:l=l') (h2:∀ x,f x=g x):l.any f=l'.any g:=by subst h; rw [funext h2]
theorem C178 (w:World):CR 178 [] w (λ v w'=>v = .agg aki∧Ext w w'):=by
 have hs:=St.start w;refine aaB _ _ ?_;unfold S178;refine aJ hs ab8 (λ awy w1 hs=>pop (l7 _ _ _ _ _ _ _ _ _ _ _ _ _) (pF hs afP rfl (by decide) (by simp [rZ,gX]) (λ w2 hs=>re afP hs.hb rfl ?_)));exact ⟨rfl,hs.drop.aE⟩
theorem C179 (p:Bool) (n many:Int) (w:World):CR 179 [.bool p,.int .i64 n,.int .i64 many] w (λ v w'=>v = .bool (if p=true then LH n many else decide (n=0))∧Ext w w'):=by
 have hs:=St.start w;refine aaC _ _ _ _ _ ?_;unfold S179;refine bZ (aY (λ gp=>?_) (λ gp=>?_))
 ·refine aH ?_;refine ⟨vb ?_,hs.aE⟩
  grind
 ·refine ⟨λ jv w'=>jv = .bool (LH n many)∧St w bD [] w',?_,?_⟩
  ·refine dH (aC (λ j1=>?_) (λ j1=>?_))
   ·refine aR ?_;exact ⟨vb (by unfold LH; grind),hs⟩
   ·exact ⟨vb (by unfold LH; grind),hs⟩
  ·rintro _ w1 ⟨rfl,hs⟩ fz;refine ⟨vb ?_,hs.aE⟩
   grind
theorem C220 (sv:Value) (xs:List UInt8) (c:Int) (w:World) (hL:eE (λ _=>True) w sv xs) (hn:xs.length≤1048576):CR 220 [sv,.int .u8 c] w (λ v w'=>v = .int .i64 (va (λ y=>decide (c=(y.toNat:Int))) xs)∧Ext w w'):=by
 have hs:=St.start w;refine aba _ _ _ _ ?_;unfold S220;refine aK afO (hL.ext hs.aE) ?_;refine ⟨λ m x w1=>∃ k:Nat,x = .int .i64 (k:Int)∧m=xs.length - k∧k≤xs.length∧(∀ y∈xs.take k,decide (c=(y.toNat:Int))=false)∧St w bD [] w1,⟨_,0,rfl,rfl,Nat.zero_le _,by simp,hs⟩,?_⟩;rintro m _ w1 ⟨k,rfl,rfl,hk,fS,hs⟩ fz;refine aR (aC (λ gw=>?_) (λ gw=>?_))
 ·obtain ⟨jr,dG⟩:=gx (xs) (i:=((k:Int)).toNat) (by omega);refine aQ afO hL (by omega) dG (λ _ iS=>aD ty5 (iS.ext hs.aE) (om (aC (λ eF=>?_) (λ eF=>?_))))
  ·exact ⟨congrArg (Value.int .i64) (py fS dG (decide_eq_true eF)).symm,hs.aE⟩
  ·refine aO (by omega) ?_;exact ⟨_,by omega,k+1,rfl,rfl,by omega,eH fS dG (decide_eq_false eF),hs⟩
 ·exact ⟨congrArg (Value.int .i64) (ky (by rw [List.take_of_length_le (by omega)] at fS; exact fS)).symm,hs.aE⟩
theorem C177 (sv:Value) (xs:List UInt8) (c:Int) (w:World) (hL:eE (λ _=>True) w sv xs) (hn:xs.length≤1048576):CR 177 [sv,.int .u8 c] w (λ v w'=>v = .bool (xs.any (λ y=>decide (c=(y.toNat:Int))))∧Ext w w'):=by
 have hs:=St.start w;refine aaA _ _ _ _ ?_;unfold S177;refine aZ aog hs (C220 _ _ _ _ (hL.ext hs.aE) (by omega)) (λ w1 he hs=>dH ?_);exact ⟨vb (oq _ _),hs.aE⟩
theorem C176 (k c:Int) (b1:Nat) (Q:Bool) (w:World) (hc:Cell w b1 0 (.int .i64 k)) (hk:1≤k∧k≤15) (hQ:hasB k c=Q):CR 176 [.int .u8 c,.pointer (some ⟨b1,0,none⟩)] w (λ v w'=>v = .bool Q∧Ext w w'):=by
 have hs:=St.start w;refine aaz _ _ _ _ ?_;unfold S176;refine aA jm (have hs:=hs.drew;cD bN (hc.ext hs.aE) (aZ anU hs (C178 _) (λ w1 he hs=>?_)));refine ⟨aG bN (hc.ext hs.aE),?_⟩;obtain rfl | rfl | rfl | rfl | rfl | rfl | rfl | rfl | rfl | rfl | rfl | rfl | rfl | rfl | rfl:k=1∨k=2∨k=3∨k=4∨k=5∨k=6∨k=7∨k=8∨k=9∨k=10∨k=11∨k=12∨k=13∨k=14∨k=15:=by omega
 ·refine pop (v:=.string ⟨#[114,101]⟩) (by kernel_rfl) (gY hs gN Tryz.underlying252 xS (λ yd w2 hs=>aZ qZ hs (C177 _ _ _ _ (hs).eB (by rw [dZ]; decide)) (λ w3 he hs=>?_)));have hs:=(hs).drop;refine ⟨vb ?_,hs.aE⟩;rw [← hQ];unfold hasB er;exact List.fw rfl (λ y=>decide_eq_decide.2 eq_comm)
 ·refine pop (v:=.string ⟨#[114,99]⟩) (by kernel_rfl) (gY hs gN Tryz.underlying252 xS (λ yd w2 hs=>aZ qZ hs (C177 _ _ _ _ (hs).eB (by rw [dZ]; decide)) (λ w3 he hs=>?_)));have hs:=(hs).drop;refine ⟨vb ?_,hs.aE⟩;rw [← hQ];unfold hasB er;exact List.fw rfl (λ y=>decide_eq_decide.2 eq_comm)
 ·refine pop (v:=.string ⟨#[99,101]⟩) (by kernel_rfl) (gY hs gN Tryz.underlying252 xS (λ yd w2 hs=>aZ qZ hs (C177 _ _ _ _ (hs).eB (by rw [dZ]; decide)) (λ w3 he hs=>?_)));have hs:=(hs).drop;refine ⟨vb ?_,hs.aE⟩;rw [← hQ];unfold hasB er;exact List.fw rfl (λ y=>decide_eq_decide.2 eq_comm)
 ·refine pop (v:=.string ⟨#[114,99,101,102]⟩) (by kernel_rfl) (gY hs gN Tryz.underlying252 xS (λ yd w2 hs=>aZ qZ hs (C177 _ _ _ _ (hs).eB (by rw [dZ]; decide)) (λ w3 he hs=>?_)));have hs:=(hs).drop;refine ⟨vb ?_,hs.aE⟩;rw [← hQ];unfold hasB er;exact List.fw rfl (λ y=>decide_eq_decide.2 eq_comm)
 ·refine pop (v:=.string ⟨#[108]⟩) (by kernel_rfl) (gY hs gN Tryz.underlying252 xS (λ yd w2 hs=>aZ qZ hs (C177 _ _ _ _ (hs).eB (by rw [dZ]; decide)) (λ w3 he hs=>?_)));have hs:=(hs).drop;refine ⟨vb ?_,hs.aE⟩;rw [← hQ];unfold hasB er;exact List.fw rfl (λ y=>decide_eq_decide.2 eq_comm)
 ·refine pop (v:=.string ⟨#[108]⟩) (by kernel_rfl) (gY hs gN Tryz.underlying252 xS (λ yd w2 hs=>aZ qZ hs (C177 _ _ _ _ (hs).eB (by rw [dZ]; decide)) (λ w3 he hs=>?_)));have hs:=(hs).drop;refine ⟨vb ?_,hs.aE⟩;rw [← hQ];unfold hasB er;exact List.fw rfl (λ y=>decide_eq_decide.2 eq_comm)
 ·refine pop (v:=.string ⟨#[]⟩) (by kernel_rfl) (gY hs gN Tryz.underlying252 xS (λ yd w2 hs=>aZ qZ hs (C177 _ _ _ _ (hs).eB (by rw [dZ]; decide)) (λ w3 he hs=>?_)));have hs:=(hs).drop;refine ⟨vb ?_,hs.aE⟩;rw [← hQ];unfold hasB er;exact List.fw rfl (λ y=>decide_eq_decide.2 eq_comm)
 ·refine pop (v:=.string ⟨#[]⟩) (by kernel_rfl) (gY hs gN Tryz.underlying252 xS (λ yd w2 hs=>aZ qZ hs (C177 _ _ _ _ (hs).eB (by rw [dZ]; decide)) (λ w3 he hs=>?_)));have hs:=(hs).drop;refine ⟨vb ?_,hs.aE⟩;rw [← hQ];unfold hasB er;exact List.fw rfl (λ y=>decide_eq_decide.2 eq_comm)
 ·refine pop (v:=.string ⟨#[109]⟩) (by kernel_rfl) (gY hs gN Tryz.underlying252 xS (λ yd w2 hs=>aZ qZ hs (C177 _ _ _ _ (hs).eB (by rw [dZ]; decide)) (λ w3 he hs=>?_)));have hs:=(hs).drop;refine ⟨vb ?_,hs.aE⟩;rw [← hQ];unfold hasB er;exact List.fw rfl (λ y=>decide_eq_decide.2 eq_comm)
 ·refine pop (v:=.string ⟨#[109]⟩) (by kernel_rfl) (gY hs gN Tryz.underlying252 xS (λ yd w2 hs=>aZ qZ hs (C177 _ _ _ _ (hs).eB (by rw [dZ]; decide)) (λ w3 he hs=>?_)));have hs:=(hs).drop;refine ⟨vb ?_,hs.aE⟩;rw [← hQ];unfold hasB er;exact List.fw rfl (λ y=>decide_eq_decide.2 eq_comm)
 ·refine pop (v:=.string ⟨#[116]⟩) (by kernel_rfl) (gY hs gN Tryz.underlying252 xS (λ yd w2 hs=>aZ qZ hs (C177 _ _ _ _ (hs).eB (by rw [dZ]; decide)) (λ w3 he hs=>?_)));have hs:=(hs).drop;refine ⟨vb ?_,hs.aE⟩;rw [← hQ];unfold hasB er;exact List.fw rfl (λ y=>decide_eq_decide.2 eq_comm)
 ·refine pop (v:=.string ⟨#[101,116]⟩) (by kernel_rfl) (gY hs gN Tryz.underlying252 xS (λ yd w2 hs=>aZ qZ hs (C177 _ _ _ _ (hs).eB (by rw [dZ]; decide)) (λ w3 he hs=>?_)));have hs:=(hs).drop;refine ⟨vb ?_,hs.aE⟩;rw [← hQ];unfold hasB er;exact List.fw rfl (λ y=>decide_eq_decide.2 eq_comm)
 ·refine pop (v:=.string ⟨#[107,110]⟩) (by kernel_rfl) (gY hs gN Tryz.underlying252 xS (λ yd w2 hs=>aZ qZ hs (C177 _ _ _ _ (hs).eB (by rw [dZ]; decide)) (λ w3 he hs=>?_)));have hs:=(hs).drop;refine ⟨vb ?_,hs.aE⟩;rw [← hQ];unfold hasB er;exact List.fw rfl (λ y=>decide_eq_decide.2 eq_comm)
 ·refine pop (v:=.string ⟨#[107,116]⟩) (by kernel_rfl) (gY hs gN Tryz.underlying252 xS (λ yd w2 hs=>aZ qZ hs (C177 _ _ _ _ (hs).eB (by rw [dZ]; decide)) (λ w3 he hs=>?_)));have hs:=(hs).drop;refine ⟨vb ?_,hs.aE⟩;rw [← hQ];unfold hasB er;exact List.fw rfl (λ y=>decide_eq_decide.2 eq_comm)
 ·refine pop (v:=.string ⟨#[101]⟩) (by kernel_rfl) (gY hs gN Tryz.underlying252 xS (λ yd w2 hs=>aZ qZ hs (C177 _ _ _ _ (hs).eB (by rw [dZ]; decide)) (λ w3 he hs=>?_)));have hs:=(hs).drop;refine ⟨vb ?_,hs.aE⟩;rw [← hQ];unfold hasB er;exact List.fw rfl (λ y=>decide_eq_decide.2 eq_comm)
theorem C185 (sv fv:Value) (xs:List Int) (g:Int→Bool) (w:World) (hL:eE (λ _=>True) w sv xs) (hf:CA w fv g) (hn:xs.length≤1073741824):CR 185 [sv,fv] w (λ v w'=>v = .int .i64 (va g xs)∧Ext w w'):=by
 obtain ⟨g0,first,cap,rfl,vz,lY⟩:=hf;have hs:=St.start w;refine aaI _ _ _ _ ?_;unfold S185;refine aK ek (hL.ext hs.aE) ?_;refine ⟨λ m x w1=>∃ k:Nat,x = .int .i64 (k:Int)∧m=xs.length - k∧k≤xs.length∧(∀ y∈xs.take k,g y=false)∧St w bD [] w1,⟨_,0,rfl,rfl,Nat.zero_le _,by simp,hs⟩,?_⟩;rintro m _ w1 ⟨k,rfl,rfl,hk,fS,hs⟩ fz;refine aR (aC (λ gw=>?_) (λ gw=>?_))
 ·obtain ⟨jr,dG⟩:=gx (xs) (i:=((k:Int)).toNat) (by omega);refine aQ ek hL (by omega) dG (λ _ iS=>aD bN (iS.ext hs.aE) (ga vz (lY jr w1 hs.aE) ?_));rintro _ w2 ⟨rfl,he⟩;have hs:=hs.ext he;refine aY (λ eF=>?_) (λ eF=>?_)
  ·exact ⟨congrArg (Value.int .i64) (py fS dG eF).symm,hs.aE⟩
  ·refine aO (by omega) ?_;exact ⟨_,by omega,k+1,rfl,rfl,by omega,eH fS dG eF,hs⟩
 ·exact ⟨congrArg (Value.int .i64) (ky (by rw [List.take_of_length_le (by omega)] at fS; exact fS)).symm,hs.aE⟩
theorem C186 (sv fv:Value) (xs:List fq) (φ:fq→Prop) (g:fq→Bool) (w:World) (hL:DL w sv xs) (hf:oo PG w fv φ g) (hφ:∀ x∈xs,φ x) (hn:xs.length≤1073741824):CR 186 [sv,fv] w (λ v w'=>v = .int .i64 (va g xs)∧Ext w w'):=by
 obtain ⟨g0,first,cap,rfl,vz,lY⟩:=hf;have hs:=St.start w;refine aaJ _ _ _ _ ?_;unfold S186;obtain ⟨ayA,aqT,aqU⟩:=(hL).open;have hn98:=aqU.1;refine aK Bj (aqT.ext hs.aE) ?_;refine ⟨λ m x w1=>∃ k:Nat,x = .int .i64 (k:Int)∧m=xs.length - k∧k≤xs.length∧(∀ y∈xs.take k,g y=false)∧St w bD [] w1,⟨_,0,rfl,rfl,Nat.zero_le _,by simp,hs⟩,?_⟩;rintro m _ w1 ⟨k,rfl,rfl,hk,fS,hs⟩ fz;refine aR (aC (λ gw=>?_) (λ gw=>?_))
 ·obtain ⟨jr,dG⟩:=gx ayA (i:=((k:Int)).toNat) (by omega);obtain ⟨Cd,jX⟩:=gx (xs) (i:=((k:Int)).toNat) (by omega);obtain ⟨adI,rfl,adJ⟩:=aqU.2 _ _ _ dG jX;refine aQ Bj aqT (by omega) dG (λ _ iS=>aD qg (iS.ext hs.aE) (ga vz (lY _ Cd w1 hs.aE ⟨adI,rfl,(adJ.ext hs.aE)⟩ (hφ _ (List.mem_of_getElem? jX))) ?_));rintro _ w2 ⟨rfl,he⟩;have hs:=hs.ext he;refine aY (λ eF=>?_) (λ eF=>?_)
  ·exact ⟨congrArg (Value.int .i64) (py fS jX eF).symm,hs.aE⟩
  ·refine aO (by omega) ?_;exact ⟨_,by omega,k+1,rfl,rfl,by omega,eH fS jX eF,hs⟩
 ·exact ⟨congrArg (Value.int .i64) (ky (by rw [List.take_of_length_le (by omega)] at fS; exact fS)).symm,hs.aE⟩
theorem C187 (sv fv:Value) (xs:List (List nx)) (φ:(List nx)→Prop) (g:(List nx)→Bool) (w:World) (hL:DL w sv xs) (hf:oo PG w fv φ g) (hφ:∀ x∈xs,φ x) (hn:xs.length≤1073741824):CR 187 [sv,fv] w (λ v w'=>v = .int .i64 (va g xs)∧Ext w w'):=by
 obtain ⟨g0,first,cap,rfl,vz,lY⟩:=hf;have hs:=St.start w;refine aaK _ _ _ _ ?_;unfold S187;obtain ⟨yb,aqV,F8⟩:=(hL).open;have apZ:=F8.1;refine aK FX (aqV.ext hs.aE) ?_;refine ⟨λ m x w1=>∃ k:Nat,x = .int .i64 (k:Int)∧m=xs.length - k∧k≤xs.length∧(∀ y∈xs.take k,g y=false)∧St w bD [] w1,⟨_,0,rfl,rfl,Nat.zero_le _,by simp,hs⟩,?_⟩;rintro m _ w1 ⟨k,rfl,rfl,hk,fS,hs⟩ fz;refine aR (aC (λ gw=>?_) (λ gw=>?_))
 ·obtain ⟨jr,dG⟩:=gx yb (i:=((k:Int)).toNat) (by omega);obtain ⟨Cd,jX⟩:=gx (xs) (i:=((k:Int)).toNat) (by omega);have agp:DL w (Flat.val jr) Cd:=F8.2 _ _ _ dG jX;refine aQ FX aqV (by omega) dG (λ _ iS=>aD xV (iS.ext hs.aE) ?_);have hf100:=DL.flat (agp);refine ga vz (lY _ Cd w1 hs.aE (agp.ext hs.aE) (hφ _ (List.mem_of_getElem? jX))) ?_;rintro _ w2 ⟨rfl,he⟩;have hs:=hs.ext he;refine aY (λ eF=>?_) (λ eF=>?_)
  ·exact ⟨congrArg (Value.int .i64) (py fS jX eF).symm,hs.aE⟩
  ·refine aO (by omega) ?_;exact ⟨_,by omega,k+1,rfl,rfl,by omega,eH fS jX eF,hs⟩
 ·exact ⟨congrArg (Value.int .i64) (ky (by rw [List.take_of_length_le (by omega)] at fS; exact fS)).symm,hs.aE⟩
theorem C249 (sv fv:Value) (xs:List aW) (φ:aW→Prop) (g:aW→Bool) (w:World) (hL:DL w sv xs) (hf:oo PG w fv φ g) (hφ:∀ x∈xs,φ x) (hn:xs.length≤1073741824):CR 249 [sv,fv] w (λ v w'=>v = .int .i64 (va g xs)∧Ext w w'):=by
 obtain ⟨g0,first,cap,rfl,vz,lY⟩:=hf;have hs:=St.start w;refine abD _ _ _ _ ?_;unfold S249;obtain ⟨aqW,agq,agr⟩:=(hL).open;have hn101:=agr.1;refine aK kS (agq.ext hs.aE) ?_;refine ⟨λ m x w1=>∃ k:Nat,x = .int .i64 (k:Int)∧m=xs.length - k∧k≤xs.length∧(∀ y∈xs.take k,g y=false)∧St w bD [] w1,⟨_,0,rfl,rfl,Nat.zero_le _,by simp,hs⟩,?_⟩;rintro m _ w1 ⟨k,rfl,rfl,hk,fS,hs⟩ fz;refine aR (aC (λ gw=>?_) (λ gw=>?_))
 ·obtain ⟨jr,dG⟩:=gx aqW (i:=((k:Int)).toNat) (by omega);obtain ⟨Cd,jX⟩:=gx (xs) (i:=((k:Int)).toNat) (by omega);obtain ⟨adK,adL,rfl,adM,adN⟩:=agr.2 _ _ _ dG jX;refine aQ kS agq (by omega) dG (λ _ iS=>aD lL (iS.ext hs.aE) (ga vz (lY _ Cd w1 hs.aE ⟨adK,adL,rfl,(adM.ext hs.aE),(adN.ext hs.aE)⟩ (hφ _ (List.mem_of_getElem? jX))) ?_));rintro _ w2 ⟨rfl,he⟩;have hs:=hs.ext he;refine aY (λ eF=>?_) (λ eF=>?_)
  ·exact ⟨congrArg (Value.int .i64) (py fS jX eF).symm,hs.aE⟩
  ·refine aO (by omega) ?_;exact ⟨_,by omega,k+1,rfl,rfl,by omega,eH fS jX eF,hs⟩
 ·exact ⟨congrArg (Value.int .i64) (ky (by rw [List.take_of_length_le (by omega)] at fS; exact fS)).symm,hs.aE⟩
theorem C117 (sv fv:Value) (xs:List Int) (g:Int→Bool) (w:World) (hL:eE (λ _=>True) w sv xs) (hf:CA w fv g) (hn:xs.length≤1073741824):CR 117 [sv,fv] w (λ v w'=>v = .bool (xs.any g)∧Ext w w'):=by
 have hs:=St.start w;refine ZQ _ _ _ _ ?_;unfold S117;refine aZ an0 hs (C185 _ _ _ _ _ (hL.ext hs.aE) (hf.ext hs.aE) (by omega)) (λ w1 he hs=>dH ?_);exact ⟨vb (oq _ _),hs.aE⟩
theorem C118 (sv fv:Value) (xs:List fq) (φ:fq→Prop) (g:fq→Bool) (w:World) (hL:DL w sv xs) (hf:oo PG w fv φ g) (hφ:∀ x∈xs,φ x) (hn:xs.length≤1073741824):CR 118 [sv,fv] w (λ v w'=>v = .bool (xs.any g)∧Ext w w'):=by
 have hs:=St.start w;refine ZR _ _ _ _ ?_;unfold S118;refine aZ an1 hs (C186 _ _ _ _ _ _ (hL.ext hs.aE) (hf.ext hs.aE) hφ (by omega)) (λ w1 he hs=>dH ?_);exact ⟨vb (oq _ _),hs.aE⟩
theorem C119 (sv fv:Value) (xs:List (List nx)) (φ:(List nx)→Prop) (g:(List nx)→Bool) (w:World) (hL:DL w sv xs) (hf:oo PG w fv φ g) (hφ:∀ x∈xs,φ x) (hn:xs.length≤1073741824):CR 119 [sv,fv] w (λ v w'=>v = .bool (xs.any g)∧Ext w w'):=by
 have hs:=St.start w;refine ZS _ _ _ _ ?_;unfold S119;refine aZ an2 hs (C187 _ _ _ _ _ _ (hL.ext hs.aE) (hf.ext hs.aE) hφ (by omega)) (λ w1 he hs=>dH ?_);exact ⟨vb (oq _ _),hs.aE⟩
theorem C221 (sv fv:Value) (xs:List aW) (φ:aW→Prop) (g:aW→Bool) (w:World) (hL:DL w sv xs) (hf:oo PG w fv φ g) (hφ:∀ x∈xs,φ x) (hn:xs.length≤1073741824):CR 221 [sv,fv] w (λ v w'=>v = .bool (xs.any g)∧Ext w w'):=by
 have hs:=St.start w;refine abb _ _ _ _ ?_;unfold S221;refine aZ aoA hs (C249 _ _ _ _ _ _ (hL.ext hs.aE) (hf.ext hs.aE) hφ (by omega)) (λ w1 he hs=>dH ?_);exact ⟨vb (oq _ _),hs.aE⟩
theorem uy {x:aW} {c:fq} {cells lines locks:Int} (h:1≤x.kind∧x.kind≤15):vm x c cells lines locks=(aM x c.aN c.counts && bM x cells lines locks && (if sK x.kind=true then eN x.e c.aN else !decide (0<(x.e.length:Int))) && (if x.kind=4 then eN x.f c.aN else !decide (0<(x.f.length:Int)))):=by
 unfold vm efM
 rw [decide_eq_true h.1,decide_eq_true h.2]
 cases aM x c.aN c.counts <;> cases bM x cells lines locks <;> simp
theorem WH {x:aW} {c:fq} {cells lines locks:Int} (h:¬ (1≤x.kind∧x.kind≤15)):vm x c cells lines locks=false:=by
 unfold vm
 by_cases h1:1≤x.kind
 ·rw [decide_eq_false (show ¬ x.kind≤15 by omega)]; simp
 ·rw [decide_eq_false h1]; simp
theorem C222 (y:aW) (yv:bU) (b1:Nat) (a:Int) (w:World) (hy:cA.dr w yv y) (hc:Cell w b1 1 (.int .i64 a)):CR 222 [Flat.val yv,.pointer (some ⟨b1,0,none⟩)] w (λ v w'=>v = .bool (sL y a)∧Ext w w'):=by
 obtain ⟨aqX,aqY,rfl,d_e_y,d_f_y⟩:=hy;have hs:=St.start w;refine abc _ _ _ _ ?_;unfold S222;refine dE hs (λ ayB w1 hs=>?_);refine ⟨λ jv w'=>jv = .bool (sL y a)∧St w bD [cE ayB (Flat.enc (⟨(y).kind,(y).a,(y).b,aqX,aqY,(y).to⟩:bU))] w',?_,?_⟩
 ·refine aA jm (aB (v:=.int .i64 ((y).kind)) bN hs.hb rfl (aH (aC (λ oJ=>?_) (λ oJ=>?_))))
  ·refine aA ko (aB (v:=.int .i64 ((y).a)) bN hs.hb rfl (aA ko (cD bN (hc.ext hs.aE) (aH ?_))));exact ⟨vb (by unfold sL; grind),hs⟩
  ·exact ⟨vb (by unfold sL; grind),hs⟩
 ·rintro _ w2 ⟨rfl,hs⟩ fz;exact ⟨rfl,hs.drop.aE⟩
theorem C180 (lv:Value) (xs:List aW) (i:Nat) (x:aW) (w:World) (hL:DL w lv xs) (hn:xs.length≤1048576) (hx:xs[i]? = some x):CR 180 [lv,.int .i64 (i:Int)] w (λ v w'=>v = .bool (Cc xs i x)∧Ext w w'):=by
 have hi:=(List.getElem?_eq_some_iff.1 hx).1;have hs:=St.start w;refine aaD _ _ _ _ ?_;unfold S180;obtain ⟨ags,LK,QT⟩:=(hL).open;have hn102:=QT.1;obtain ⟨e_x8,agt⟩:=gx ags (i:=((i:Int)).toNat) (by omega);obtain ⟨tm,agu⟩:=gx (xs) (i:=((i:Int)).toNat) (by omega);obtain ⟨WI,WJ,rfl,ayC,ayD⟩:=QT.2 _ _ _ agt agu;refine aQ kS LK (by omega) agt (λ _ ayE=>?_);obtain rfl:tm=x:=Option.some.inj (agu.symm.trans hx);refine aD lL (ayE.ext hs.aE) (aJ hs mE (λ ur w1 hs=>have hs:=hs.enc (cs':=Flat.enc (⟨0,0,0,⟨none,0,0⟩,⟨none,0,0⟩,0⟩:bU)) rfl;aI (x:=(⟨(tm).kind,(tm).a,(tm).b,WI,WJ,(tm).to⟩:bU)) hs lL rfl rfl (λ w2 hs=>?_)))
 refine ⟨λ jv w'=>jv = .bool (!btM xs i tm)∧St w bD [cE ur (Flat.enc (⟨(tm).kind,(tm).a,(tm).b,WI,WJ,(tm).to⟩:bU))] w',?_,?_⟩
 ·refine aA kp (have hs:=hs.drew;aB (v:=.int .i64 ((tm).to)) bN hs.hb rfl (aR (aC (λ j1=>?_) (λ j1=>?_))))
  ·exact ⟨vb (by first | (rw [LI (by omega)]; rfl) | (rw [WB (by omega) (by omega) wM]; unfold sL; first | grind | simp_all)),hs⟩
  ·refine aA kp (aB (v:=.int .i64 ((tm).to)) bN hs.hb rfl (dD (aC (λ mc=>?_) (λ mc=>?_))))
   ·exact ⟨vb (by first | (rw [LI (by omega)]; rfl) | (rw [WB (by omega) (by omega) wM]; unfold sL; first | grind | simp_all)),hs⟩
   ·refine aA kp (aB (v:=.int .i64 ((tm).to)) bN hs.hb rfl (gA (by omega) ?_));obtain ⟨gU,iw⟩:=gx ags (i:=(((tm).to - 1)).toNat) (by omega);obtain ⟨Ce,wM⟩:=gx (xs) (i:=(((tm).to - 1)).toNat) (by omega);obtain ⟨atI,atJ,rfl,atK,atL⟩:=QT.2 _ _ _ iw wM;refine aQ kS LK (by omega) iw (λ _ wu=>bT (Ce).kind jm wu rfl rfl (λ _ uw=>aD bN (uw.ext hs.aE) (cO (aC (λ gh=>?_) (λ gh=>?_)))))
    ·exact ⟨vb (by first | (rw [LI (by omega)]; rfl) | (rw [WB (by omega) (by omega) wM]; unfold sL; first | grind | simp_all)),hs⟩
    ·refine aA kp (aB (v:=.int .i64 ((tm).to)) bN hs.hb rfl (gA (by omega) (aQ kS LK (by omega) iw (λ _ rL=>bT (Ce).a ko rL rfl rfl (λ _ z9=>aD bN (z9.ext hs.aE) (aA ko (aB (v:=.int .i64 ((tm).a)) bN hs.hb rfl (cO ?_))))))));exact ⟨vb (by first | (rw [LI (by omega)]; rfl) | (rw [WB (by omega) (by omega) wM]; unfold sL; first | grind | simp_all)),hs⟩
 ·rintro _ w3 ⟨rfl,hs⟩ fz;refine aY (λ qB=>?_) (λ qB=>?_)
  ·refine ⟨vb ?_,hs.drop.aE⟩;exact (WD (by simpa using qB)).symm
  ·have NY:btM xs i tm=true:=by simpa using qB
   have hto:=aqS NY;refine aA kp (aB (v:=.int .i64 ((tm).to)) bN hs.hb rfl (kx kS (LK.ext hs.aE) (by omega) (by omega) (by omega) (λ WK Ok=>?_)));have I2:=DL.cut Ok LK QT
   have KH:oo PG _ (.func (.func 222) [].toArray [.pointer (some ⟨ur,0,none⟩)].toArray) (λ _:aW=>True) (λ y=>sL y tm.a):=
    ⟨222,[],_,rfl,aoi,λ s y w1 e1 hd _=>C222 y s ur tm.a w1 hd ((hs.hb.cell rfl).ext e1)⟩
   refine aZ aoh hs (C221 _ _ _ (λ _=>True) _ _ (I2.ext hs.aE) KH (λ _ _=>trivial) (by simp; omega)) (λ w4 he hs=>bZ ?_);refine ⟨vb ?_,hs.drop.aE⟩;unfold Cc;rw [NY];simp only [Bool.true_and]
   congr 2
set_option maxHeartbeats 4000000 in
theorem C181 (lv:Value) (xs:List aW) (w:World) (hL:DL w lv xs) (hn:xs.length≤1048576) (hb:ago xs):CR 181 [lv] w (λ v w'=>v = .bool (!(List.range xs.length).any (qK xs))∧Ext w w'):=by
 have hs:=St.start w;refine aaE _ _ _ ?_;unfold S181;obtain ⟨agv,WL,WM⟩:=(hL).open;have hn103:=WM.1;refine aK kS (WL.ext hs.aE) ?_;have hs:=hs.fU (α:=Int);refine ⟨λ m zI x w1=>∃ k:Nat,x = .int .i64 (k:Int)∧m=xs.length - k∧k≤xs.length∧(∀ j,j<k→qK xs j=false)∧St w bD [bK zI (oE xs k)] w1,⟨_,0,rfl,rfl,Nat.zero_le _,by simp,hs⟩,?_⟩;rintro m zI _ w1 ⟨k,rfl,rfl,hk,fS,hs⟩ fz;have hel:=Hc xs k;refine aR (aC (λ kM=>?_) (λ kM=>?_))
 ·obtain ⟨pS,jW⟩:∃ xx,agv[((k:Int)).toNat]? = some xx:=⟨_,List.getElem?_eq_getElem (by omega)⟩;obtain ⟨mJ,o8⟩:∃ xx,(xs)[((k:Int)).toNat]? = some xx:=⟨_,List.getElem?_eq_getElem (by omega)⟩;obtain ⟨I3,I4,rfl,atM,atN⟩:=WM.2 _ _ _ jW o8;refine ⟨λ CQ w'=>qK xs k=false∧St w bD [bK CQ (oE xs (k+1))] w',?_,?_⟩
  ·refine aQ kS WL (by omega) jW (λ _ rz=>aD lL (rz.ext hs.aE) (aJ hs mE (λ ur w2 hs=>have hs:=hs.enc (cs':=Flat.enc (⟨0,0,0,⟨none,0,0⟩,⟨none,0,0⟩,0⟩:bU)) rfl;aI (x:=(⟨(mJ).kind,(mJ).a,(mJ).b,I3,I4,(mJ).to⟩:bU)) hs lL rfl rfl (λ w3 hs=>aA jm (aB (v:=.int .i64 ((mJ).kind)) bN hs.hb rfl (cO (aC (λ fy=>?_) (λ fy=>?_))))))))
   ·have hs:=(hs).drop;rw [WE (k:=k) o8 (by omega)] at hs;exact ⟨by rw [xC (i:=k) o8,decide_eq_false (show ¬ mJ.kind=14 by omega)]; rfl,hs⟩
   ·have hto:=hb k mJ o8 (by omega);refine aA kp (aB (v:=.int .i64 ((mJ).to)) bN hs.hb rfl (gA (by omega) (aK ek (hs.p1).fB ?_)));have hs:=hs.p1.p1;refine ⟨λ m x w1=>∃ q:Nat,x = .int .i64 (q:Int)∧m=(oE xs k).length - q∧q≤(oE xs k).length∧(∀ e∈(oE xs k).take q,vo xs mJ e.toNat=false)∧St w bD [cE ur (Flat.enc (⟨(mJ).kind,(mJ).a,(mJ).b,I3,I4,(mJ).to⟩:bU)),bK zI (oE xs k)] w1,⟨_,0,rfl,rfl,Nat.zero_le _,by simp,hs⟩,?_⟩;rintro m _ w4 ⟨q,rfl,rfl,hq,akj,hs⟩ jB;refine aR (aC (λ qC=>?_) (λ qC=>?_))
    ·obtain ⟨agw,Ol⟩:=gx ((oE xs k)) (i:=((q:Int)).toNat) (by omega);refine dU hs.p1 ek (by omega) (by omega) (λ _ wy=>?_);obtain ⟨j,hej,hjk,y,hy,akl⟩:=SB (List.mem_of_getElem? Ol);have hjl:=(List.getElem?_eq_some_iff.1 hy).1;have hyto:=hb j y hy akl;refine gk hs.p1 bN wy Ol ?_;obtain ⟨aqZ,BH⟩:=gx agv (i:=(agw).toNat) (by omega);obtain ⟨agx,WN⟩:=gx (xs) (i:=(agw).toNat) (by omega);obtain ⟨atO,atP,rfl,atQ,atS⟩:=WM.2 _ _ _ BH WN;refine aQ kS WL (by omega) BH (λ _ oO=>bT (agx).to kp oO rfl rfl (λ _ Am=>aD bN (Am.ext hs.aE) ?_))
     obtain rfl:agx=y:=Option.some.inj (WN.symm.trans (by rw [hej]; exact hy));refine gA (by omega) ?_;refine ⟨λ jv w'=>jv = .bool (vo xs mJ j)∧St w bD [cE ur (Flat.enc (⟨(mJ).kind,(mJ).a,(mJ).b,I3,I4,(mJ).to⟩:bU)),bK zI (oE xs k)] w',?_,?_⟩
     ·refine aR (aC (λ uh=>?_) (λ uh=>?_))
      ·refine dH ?_;exact ⟨vb (by rw [Ay hy,decide_eq_true akl]; grind),hs⟩
      ·exact ⟨vb (by rw [Ay hy,decide_eq_true akl]; grind),hs⟩
     ·rintro _ w5 ⟨rfl,hs⟩ oN;refine aY (λ kB=>?_) (λ kB=>?_)
      ·have hs:=((hs.drop)).drop;refine ⟨vb ?_,hs.aE⟩;rw [rG (f:=qK xs) (j:=k) (by omega) (by rw [xC (i:=k) o8,decide_eq_true (show mJ.kind=14 by omega)]; exact rG (j:=j) hjk kB)]; rfl
      ·refine aO (by omega) ?_;exact ⟨_,by omega,q+1,rfl,rfl,by omega,eH akj Ol (by rw [hej]; exact kB),hs⟩
    ·refine bX (([(k:Int)]:List Int)) hs ek rfl rfl (eL rfl) (λ aq0 w6 hs=>?_);have EY:=(hs).fB;refine cP hs.p2 ek EY (by have:=Hc xs k; simp; omega) (by decide) (λ aqD w7 hs=>?_);have hs:=hs.p1.drop.p1.drop;rw [SA (k:=k) o8 (by omega)] at hs;exact ⟨by rw [xC (i:=k) o8,WG (by rw [List.take_of_length_le (by omega)] at akj; exact akj)]; simp,hs⟩
  ·rintro CQ w8 ⟨WO,hs⟩ F6;refine aO (by omega) ?_;exact ⟨_,by omega,k+1,rfl,rfl,by omega,Ai fS WO,hs⟩
 ·have hs:=(hs).drop;refine ⟨vb ?_,hs.aE⟩;rw [ng (f:=qK xs) (λ j hj=>fS j (by omega))]; rfl
theorem C114 (u:ir) (uv:dL) (w:World) (hu:cA.dr w uv u) (hz:UZ u) (hb:∀ n∈u.lines,-1≤n∧n≤(u.lines.length:Int)):CR 114 [Flat.val uv] w (λ v w'=>v = .int .i64 (gq u)∧Ext w w'):=by
 obtain ⟨iK,gL,fa,sM,fk,rfl,iL,jw,jd,jS,kX⟩:=hu;obtain ⟨dM,rfl,il⟩:=jS;have hs:=St.start w;refine ZN _ _ _ ?_;unfold S114;refine dE hs (λ ye w1 hs=>?_);refine ⟨λ jv w'=>jv = .bool (decide (¬ (1≤u.stays∧u.stays≤u.lines.length)))∧St w bD [cE ye (Flat.enc (⟨iK,(u).stays,gL,(u).locks,fa,(⟨((u).recover).aN,((u).recover).counts,dM⟩:cL),fk⟩:dL))] w',?_,?_⟩
 ·refine aA pq (aB (v:=.int .i64 ((u).stays)) bN hs.hb rfl (aR (aC (λ Vi=>?_) (λ Vi=>?_))))
  ·exact ⟨vb (by grind),hs⟩
  ·refine aA pq (aB (v:=.int .i64 ((u).stays)) bN hs.hb rfl (aA mD (aB eA hs.hb rfl ?_)));have aq1:=DL.flat (iL);refine aK ek (aq1.ext hs.aE) (dD ?_);exact ⟨vb (by grind),hs⟩
 ·rintro _ w2 ⟨rfl,hs⟩ fz;refine aY (λ kM=>?_) (λ kM=>?_)
  ·have akm:¬ (1≤u.stays∧u.stays≤u.lines.length):=of_decide_eq_true kM;exact ⟨congrArg (Value.int .i64) (by unfold gq; rw [if_neg akm]),hs.drop.aE⟩
  ·have akm:1≤u.stays∧u.stays≤u.lines.length:=by simpa using kM
   have hzl:=hz.lines;refine aA mD (aB eA hs.hb rfl ?_);have aq2:=DL.flat (iL);refine aA pq (aB (v:=.int .i64 ((u).stays)) bN hs.hb rfl (gA (by omega) ?_));obtain ⟨iJ,fj⟩:=gx ((u).lines) (i:=(((u).stays - 1)).toNat) (by omega);refine aQ ek aq2 (by omega) fj (λ _ ju=>aD bN (ju.ext hs.aE) ?_);have hbe:=hb _ (List.mem_of_getElem? fj);refine aO (by omega) ?_;exact ⟨congrArg (Value.int .i64) (by unfold gq; rw [if_pos akm,List.getD_eq_getElem?_getD,fj]; rfl),hs.drop.aE⟩
theorem C111 (n:Int) (w:World):CR 111 [.int .i64 n] w (λ v w'=>v = .bool (lB n)∧Ext w w'):=by
 have hs:=St.start w;refine ZK _ _ _ ?_;unfold S111;refine ⟨λ jv w'=>jv = .bool (lB n)∧St w bD [] w',?_,?_⟩
 ·refine aR (aC (λ pU=>?_) (λ pU=>?_))
  ·exact ⟨vb (by unfold lB; grind),hs⟩
  ·refine dD ?_;exact ⟨vb (by unfold lB; grind),hs⟩
 ·rintro _ w1 ⟨rfl,hs⟩ fz;exact ⟨rfl,hs.aE⟩
theorem C115 (lv:Value) (xs:List nx) (b1:Nat) (many:Int) (w:World) (hL:eE (λ _=>True) w lv xs) (hc:Cell w b1 1 (.int .i64 many)) (hn:xs.length≤1000):CR 115 [lv,.pointer (some ⟨b1,0,none⟩)] w (λ v w'=>v = .bool (!eN xs many)∧Ext w w'):=by
 have hs:=St.start w;refine ZO _ _ _ _ ?_;unfold S115;refine aA pq (cD bN (hc.ext hs.aE) (aZ PE hs (C116 _ _ _ _ (hL.ext hs.aE) (by omega)) (λ w1 he hs=>bZ ?_)));exact ⟨rfl,hs.aE⟩
end Go.Proofs.YtnjcingfdhjfkaaGreat
